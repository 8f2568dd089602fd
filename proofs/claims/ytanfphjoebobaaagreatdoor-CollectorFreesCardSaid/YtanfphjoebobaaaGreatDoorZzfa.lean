/- Parts of the iy. No conditions. -/
import Derived.OpenShut
import Derived.Deep.Slices
import Derived.Test.YtanfphjoebobaaaGreatDoorRows
import Derived.WalkSpells
import Derived.WalkLawsBesides
import Derived.Lib.LaidTab
import Derived.MakeChecks
import Derived.Stop.LaidErr
import Derived.BigQuiet
import Derived.StillTailTactics
import Derived.Lib.QuietBelowIn
import Derived.OwnWalkIn
import Derived.Deep.LoopGhost
import Derived.Test.YtanfphjoebobaaaGreatDoorZzf0
namespace Go.Proofs.YtanfphjoebobaaaGreatDoor
open _root_.Array renaming getElem?_eq_getElem->ajd
open _root_.Go.World renaming drew->ajr,size_alloc->ajq,var?_cell->ajp
open _root_.Int renaming toNat_natCast->ajv
open _root_.List renaming drop_succ_cons->ajt,drop_zero->ajn,getD_eq_getElem?_getD->ajg,getElem?_append_left->ajk,getElem?_append_right->ajl,getElem?_eq_getElem->ajh,getElem_mem->aji,replicate->ajj,take_add->ajm,take_of_length_le->ajo,take_zero->ajs
open _root_.Nat renaming le_refl->aje,le_succ->aju,lt_of_lt_of_le->ajf
open _root_.Go.Proofs.Tryz hiding prog
open _root_.Go.Proofs.Tryz renaming prog->aA
set_option maxRecDepth 4000
set_option maxHeartbeats 4000000
section
open Go.RowKit
def aF (w:World) (B:Nat) (cs:List Value) (T:TypeId):Prop:=w.heap[B]?=some (.cells cs.toArray T (0,0))
theorem aF.cell {w B cs T} (h:aF w B cs T) (i:Nat) {v:Value} (hi:cs[i]?=some v):w.cell? ⟨B,i,none⟩=some v:=by
 unfold aF at h
 simp [World.cell?,h,hi]
theorem aF.free {w B cs T} (h:aF w B cs T) (i:Nat):w.frozen? ⟨B,i,none⟩=false:=by
 unfold aF at h
 simp [World.frozen?,h]
theorem aF.lt {w B cs T} (h:aF w B cs T):B<w.heap.size:=lt_of_block h
theorem aF.set {w B cs T} (h:aF w B cs T) (i:Nat) (v:Value):aF (w.setCell ⟨B,i,none⟩ v) B (cs.set i v) T:=by
 have hlt:=h.lt
 unfold aF at h
 have h':w.heap[B] = .cells cs.toArray T (0,0):=by simpa [ajd hlt] using h
 show (w.heap.modify B _)[B]?=_
 rw [ajd (by simpa using hlt),Array.getElem_modify_self,h']
 simp
theorem aF.uh {w B cs T} (h:aF w B cs T) {a:Addr} (ha:B≠a.block) (v:Value):aF (w.setCell a v) B cs T:=by
 unfold aF at *
 rw [Below.heap_setCell _ _ _ _ ha];exact h
theorem aF.alloc {w B cs T} (h:aF w B cs T) (o:Obj):aF (w.alloc o) B cs T:=by
 have hlt:=h.lt
 unfold aF at *
 rw [Below.heap_alloc _ _ _ hlt];exact h
theorem aF.drew {w B cs T} (h:aF w B cs T):aF w.drew B cs T:=h
theorem aF.bC (w:World) (cs:List Value) (T:TypeId):aF (w.alloc (.cells cs.toArray T)) w.heap.size cs T:=by
 show (w.heap.push _)[w.heap.size]?=_
 simp
theorem aF.jL {w B cs cs' T T'} (h:aF w B cs T) (h':aF w B cs' T'):cs=cs'/\T=T':=by
 unfold aF at *
 rw [h] at h'
 simp at h';exact h'
structure aj (S:Nat->Prop) (w w':World):Prop where
 os:w'.os=w.os
 tape:w'.tape=w.tape
 output:w'.output=w.output
 size:w.heap.size<=w'.heap.size
 block:∀ k,k<w.heap.size->¬ S k->w'.heap[k]?=w.heap[k]?
theorem aj.refl (S:Nat->Prop) (w:World):aj S w w:=⟨rfl,rfl,rfl,aje _,fun _ _ _=>rfl⟩
theorem aj.trans {S:Nat->Prop} {a b c:World} (h:aj S a b) (k:aj S b c):aj S a c :=
 ⟨k.os.trans h.os,k.tape.trans h.tape,k.output.trans h.output,Nat.le_trans h.size k.size,fun i hi hs=>(k.block i (ajf hi h.size) hs).trans (h.block i hi hs)⟩
theorem aj.kF {S T:Nat->Prop} {a b c:World} (h:aj S a b) (k:aj T b c) (hs:∀ i,i<a.heap.size->T i->S i):aj S a c :=
 ⟨k.os.trans h.os,k.tape.trans h.tape,k.output.trans h.output,Nat.le_trans h.size k.size,fun i hi n=>(k.block i (ajf hi h.size) (fun t=>n (hs i hi t))).trans (h.block i hi n)⟩
theorem aj.mono {S T:Nat->Prop} {a b:World} (h:aj S a b) (hs:∀ i,i<a.heap.size->S i->T i):aj T a b :=
 ⟨h.os,h.tape,h.output,h.size,fun i hi n=>h.block i hi (fun s=>n (hs i hi s))⟩
theorem aj.setCell {S:Nat->Prop} {a w:World} (h:aj S a w) {p:Addr} (hp:p.block<a.heap.size->S p.block) (u:Value):aj S a (w.setCell p u) :=
 h.kF (T:=fun i=>i=p.block) ⟨rfl,rfl,rfl,by simp [World.setCell],fun k _ n=>Below.heap_setCell _ _ _ _ n⟩ (fun i hi e=>by subst e;exact hp hi)
theorem aj.alloc {S:Nat->Prop} {a w:World} (h:aj S a w) (o:Obj):aj S a (w.alloc o) :=
 h.trans ⟨rfl,rfl,rfl,by simp,fun k hk _=>Below.heap_alloc _ _ _ hk⟩
theorem aj.drew {S:Nat->Prop} {a w:World} (h:aj S a w):aj S a w.drew:=⟨h.os,h.tape,h.output,h.size,h.block⟩
theorem aj.drewN {S:Nat->Prop} {a w:World} (h:aj S a w) (n:Nat):aj S a (w.drewN n):=⟨h.os,h.tape,h.output,h.size,h.block⟩
theorem aj.aH {S:Nat->Prop} {w w':World} (h:aj S w w') {B cs T} (hb:aF w B cs T) (hs:¬ S B):aF w' B cs T:=by
 have hlt:=hb.lt
 unfold aF at *
 rw [h.block B hlt hs];exact hb
theorem aj.cell {S:Nat->Prop} {w w':World} (h:aj S w w') {p:Addr} (hp:p.block<w.heap.size) (hs:¬ S p.block):w'.cell? p=w.cell? p:=World.cell?_of_block (w:=w) (h.block p.block hp hs)
theorem aj.nP {S:Nat->Prop} {w w':World} (h:aj S w w') {p:Addr} {v:Value} (hc:w.cell? p=some v) (hs:¬ S p.block):w'.cell? p=some v:=by
 rw [h.cell (World.block_lt_of_cell? _ _ hc) hs];exact hc
theorem aj.QW {S:Nat->Prop} {w w':World} (h:aj S w w') {p:Addr} (hp:p.block<w.heap.size) (hs:¬ S p.block):w'.frozen? p=w.frozen? p:=World.frozen?_of_block (w:=w) (h.block p.block hp hs)
theorem aj.VQ {w w':World} (h:Below w.heap.size w w') (S:Nat->Prop):aj S w w':=⟨h.os,h.tape,h.output,h.size,fun k hk _=>h.block k hk⟩
theorem aj.toBelow {w w':World} (h:aj (fun _=>False) w w'):Below w.heap.size w w':=⟨h.os,h.tape,h.output,h.size,fun k hk=>h.block k hk (fun f=>f)⟩
def only (B:Nat):Nat->Prop:=fun i=>i=B
def aB:Nat->Prop:=fun _=>False
theorem aj.still {w w':World} (h:aj aB w w') {p:Addr} {v:Value} (hc:w.cell? p=some v):w'.cell? p=some v:=h.nP hc (fun f=>f)
theorem aj.QJ {w0 w w':World} {B:Nat} (h:aj aB w0 w) (k:aj (only B) w w') (hB:w0.heap.size<=B):aj aB w0 w':=h.kF k (fun i hi e=>by unfold only at e;omega)
theorem aj.put {w0 w:World} {B:Nat} (h:aj (only B) w0 w) (i:Nat) (v:Value):aj (only B) w0 (w.setCell ⟨B,i,none⟩ v):=h.setCell (p:=⟨B,i,none⟩) (fun _=>rfl) v
theorem aj.iP {S:Nat->Prop} {w0 w:World} {B:Nat} (h:aj S w0 w) (hB:w0.heap.size<=B) (i:Nat) (v:Value):aj S w0 (w.setCell ⟨B,i,none⟩ v):=h.setCell (p:=⟨B,i,none⟩) (fun hl=>absurd hl (by simp;omega)) v
end
section
open Go.RowKit Go.ChangeShapes Go.WideShapes Go.Deep
structure gY (k:IntKind) (w:World) (a:Option Addr) (n:Nat) (zs:List Int):Prop where
 len:zs.length=n
 ni:0<n->∃ b off,a=some ⟨b,off,none⟩/\∀ j,j<n->w.cell? ⟨b,off+j,none⟩=some (.int k (zs.getD j 0))
structure Gw (k:IntKind) (w:World) (a:Option Addr) (n:Nat) (zs:List Int):Prop where
 len:zs.length=n
 ni:0<n->∃ b off,a=some ⟨b,off,none⟩/\∀ j,j<n->w.cell? ⟨b,off+j,none⟩=some (.int k (zs.getD j 0))
 wf:∀ z∈zs,(Lit.int k z).wf=true
theorem Gw.cells {k:IntKind} {w:World} {a:Option Addr} {n:Nat} {zs:List Int} (h:Gw k w a n zs):gY k w a n zs:=⟨h.len,h.ni⟩
theorem Gw.ofRow {k:IntKind} {w:World} {x:Addr} {len aO:Nat} {zs:List Int} (hl:len<=aO) (hz:zs.length=aO)
 (hc:∀ i,i<zs.length->w.cell? (x.add i)=some (.int k (zs.getD i 0))) (hw:∀ n∈zs,(Lit.int k n).wf=true):Gw k w (some x) len (zs.take len):=by
 refine ⟨by simp;omega,fun h0=>?_,fun z h=>hw z (List.mem_of_mem_take h)⟩
 obtain ⟨b,off,rfl,h⟩:=ints_at hc (by omega)
 refine ⟨b,off,rfl,fun j hj=>?_⟩
 rw [h j (by omega)]
 simp [ajg,hj]
theorem gY.below {k:IntKind} {w w':World} {a:Option Addr} {n:Nat} {zs:List Int} (h:gY k w a n zs) (hb:aj aB w w'):gY k w' a n zs:=by
 refine ⟨h.len,fun h0=>?_⟩
 obtain ⟨b,off,e,hc⟩:=h.ni h0
 exact ⟨b,off,e,fun j hj=>hb.still (hc j hj)⟩
theorem Gw.KE {k:IntKind} {w:World} {a:Option Addr} {n:Nat} {zs:List Int} (h:Gw k w a n zs) (j:Nat) (hj:j<n):(Lit.int k (zs.getD j 0)).wf=true:=by
 have hl:=h.len
 have:zs.getD j 0∈zs:=by
  rw [ajg,ajh (by omega)]
  exact aji _
 exact h.wf _ this
inductive BL where
 | int (k:IntKind)
 | bool
 | string
def uS (fl:TypeId->Option (List BL)) (c:TypeId->Nat):List Field->Nat->Option (List BL)
 | [],_=>some []
 | f::r,off=>match fl f.type with
   | none=>none
   | some ks=>if f.offset=off/\c f.type=ks.length then (match uS fl c r (off+ks.length) with|none=>none|some eP=>some (ks++eP)) else none
def flat (P:Program):Nat->TypeId->Option (List BL)
 | 0,_=>none
 | n+1,t=>match P.underlying t with
   | some (.int k)=>some [.int k]
   | some .bool=>some [.bool]
   | some .string=>some [.string]
   | some (.struct fs)=>match uS (flat P n) P.cellsOf fs.toList 0 with
     | none=>none
     | some ks=>if P.cellsOf t=ks.length then some ks else none
   | some (.array m e)=>match flat P n e with
     | none=>none
     | some ks=>if P.cellsOf e=ks.length/\P.cellsOf t=m*ks.length then some (ajj m ks).flatten else none
   | _=>none
def Za:BL->Value->Prop
 | .int k,v=>∃ n,v = .int k n/\(Lit.int k n).wf=true
 | .bool,v=>∃ b,v = .bool b
 | .string,v=>∃ s:ByteArray,v = .string s/\s.size<=maxLen
structure pR (ks:List BL) (cs:List Value):Prop where
 len:cs.length=ks.length
 ni:∀ (i:Nat) (k:BL),ks[i]?=some k->∃ v,cs[i]?=some v/\Za k v
theorem pR.nil:pR [] []:=⟨rfl,fun i k h=>by simp at h⟩
theorem pR.one {k:BL} {v:Value} (h:Za k v):pR [k] [v]:=⟨rfl,fun i k' h'=>by
 cases i with
 | zero=>simp at h';subst h';exact ⟨v,rfl,h⟩
 | succ i=>simp at h'⟩
theorem pR.append {ks ks':List BL} {cs cs':List Value} (h:pR ks cs) (h':pR ks' cs'):pR (ks++ks') (cs++cs'):=by
 have hl:=h.len
 refine ⟨by simp [h.len,h'.len],fun i k hk=>?_⟩
 rcases Nat.lt_or_ge i ks.length with hi|hi
 ·rw [ajk hi] at hk
  rw [ajk (by omega)]
  exact h.ni i k hk
 ·rw [ajl hi] at hk
  rw [ajl (by omega),hl]
  exact h'.ni _ k hk
section
variable {H:Type} {enc:TypeId × Value->H} {P:Program} {w:World} {bP:Nat} {spare:Nat->Bool} {held:Bool}
theorem Qs (m:Nat) (n:Nat) (cs:List Value)
 (ih:∀ (t:TypeId) (cs:List Value) (x:DataW H × List MemPlace) (ks:List BL),DataW.trod enc P w bP spare held n t cs=some x->flat P m t=some ks->pR ks cs) :
 ∀ (fs:List Field) (off:Nat) (ks:List BL),uS (flat P m) P.cellsOf fs off=some ks ->
  (∀ f∈fs,∃ x,DataW.trod enc P w bP spare held n f.type ((cs.drop f.offset).take (P.cellsOf f.type))=some x)->pR ks ((cs.drop off).take ks.length):=by
 intro fs
 induction fs with
 | nil =>
   intro off ks h _
   simp [uS] at h
   subst h
   simpa using pR.nil
 | cons f r ihr =>
   intro off ks h hx
   unfold uS at h
   cases h1:flat P m f.type with
   | none=>simp [h1] at h
   | some k1 =>
     simp only [h1] at h
     split at h
     ·rename_i hc
      obtain ⟨ho,hl⟩:=hc
      cases h2:uS (flat P m) P.cellsOf r (off+k1.length) with
      | none=>simp [h2] at h
      | some k2 =>
        simp only [h2,Option.some.injEq] at h
        subst h
        obtain ⟨x,ht⟩:=hx f (by simp)
        rw [ho,hl] at ht
        have a1:=ih _ _ _ _ ht h1
        have a2:=ihr _ _ h2 (fun g hg=>hx g (by simp [hg]))
        have:=a1.append a2
        rw [<- List.drop_drop,<- ajm] at this
        simpa using this
     ·cases h
theorem adU:∀ (m n:Nat) (t:TypeId) (cs:List Value) (x:DataW H × List MemPlace) (ks:List BL),DataW.trod enc P w bP spare held n t cs=some x->flat P m t=some ks->pR ks cs:=by
 intro m
 induction m with
 | zero=>intro n t cs x ks _ h;simp [flat] at h
 | succ m ihm =>
   intro n t cs x ks hx h
   unfold flat at h
   cases hu:P.underlying t with
   | none=>simp [hu] at h
   | some d =>
     rw [hu] at h
     cases d with
     | int k =>
       simp at h;subst h
       obtain ⟨q,rfl,_,hq⟩:=DataW.trod_int hu hx
       exact pR.one ⟨q,rfl,hq⟩
     | bool =>
       simp at h;subst h
       obtain ⟨q,rfl,_⟩:=DataW.trod_bool hu hx
       exact pR.one ⟨q,rfl⟩
     | string =>
       simp at h;subst h
       obtain ⟨q,rfl,_,hq⟩:=DataW.trod_string hu hx
       exact pR.one ⟨q,rfl,hq⟩
     | struct fs =>
       simp only at h
       cases AB:uS (flat P m) P.cellsOf fs.toList 0 with
       | none=>simp [AB] at h
       | some ks' =>
         simp only [AB] at h
         split at h
         ·rename_i hcl
          simp only [Option.some.injEq] at h
          subst h
          obtain ⟨xs,n',rfl,_,hl,hxl,hf⟩:=DataW.trod_struct hu hx
          have:=Qs m n' cs (fun t cs x ks a b=>ihm n' t cs x ks a b) fs.toList 0 ks' AB (fun f hm=>by
           obtain ⟨i,hi⟩:=List.mem_iff_getElem?.1 hm
           have hi':fs[i]?=some f:=by simpa using hi
           have hlt:i<xs.length:=by rw [hxl];exact (Array.getElem?_eq_some_iff.1 hi').1
           exact ⟨xs[i],by rw [hf i f hi',ajh hlt]⟩)
          have e:(cs.drop 0).take ks'.length=cs:=by rw [ajn,ajo (by omega)]
          rw [e] at this
          exact this
         ·cases h
     | array q e =>
       simp only at h
       cases AB:flat P m e with
       | none=>simp [AB] at h
       | some ks' =>
         simp only [AB] at h
         split at h
         ·rename_i hcl
          obtain ⟨hce,hct⟩:=hcl
          simp only [Option.some.injEq] at h
          subst h
          obtain ⟨xs,n',rfl,_,hl,hxl,hf⟩:=DataW.trod_array hu hx
          have key:∀ j,j<=q->pR (ajj j ks').flatten (cs.take (j*ks'.length)):=by
           intro j
           induction j with
           | zero=>intro _;simpa using pR.nil
           | succ j ihj =>
             intro hj
             have a1:=ihj (by omega)
             have a2:=ihm n' e _ xs[j] ks' (by rw [hf j (by omega),ajh (by omega)]) AB
             rw [hce] at a2
             rw [List.replicate_succ',List.flatten_append,Nat.succ_mul,ajm]
             simpa using a1.append a2
          have:=key q (aje _)
          rw [ajo (by omega)] at this
          exact this
         ·cases h
     | _=>simp at h
end
end
section
open Go.RowKit
def BM (zs:List Int) (m:Int):Bool:=zs.any (· == m)
theorem BN {zs:List Int} {m:Int}:BM zs m=true↔m∈zs:=by
 simp [BM]
theorem Zb (a:Option Addr) (n c:Nat) (zs:List Int) (m:Int) (w:World) (h:gY .i64 w a n zs) (hm:n<=9223372036854775807) :
 Calls aA 36 #[.slice a n c,ah m] w fun e w'=>e = .returned (.bool (BM zs m))/\w=w':=by
 go_enter func36,ntmps36
 go_wp2
 go_loop [5] (fun i=>∃ k:Nat,k<=n/\i = ah k/\∀ j,j<k->zs.getD j 0≠m) (fun i=>n - (intOf i).toNat)
 case atStart=>exact ⟨0,Nat.zero_le _,rfl,fun j hj=>absurd hj (by omega)⟩
 case round =>
  obtain ⟨k,hk,rfl,hr⟩:=hrel
  have hl:=h.len
  by_cases hlt:k<n
  ·obtain ⟨b,off,rfl,hc⟩:=h.ni (by omega)
   have hck:=hc k hlt
   by_cases hx:zs.getD k 0=m
   ·rw [hx] at hck
    have HE:Hid (BM zs m=true):=BN.2 (by
     rw [<- hx,ajg,ajh (by omega)]
     exact aji _)
    clear hc hr h hx hl
    go_wp2
    go_ret
    exact ⟨by rw [HE.out];rfl,rfl⟩
   ·have hne:(zs.getD k 0==m)=false:=by simpa using hx
    have HR:Hid (∀ j,j<k+1->zs.getD j 0≠m):=fun j hj=>by
     rcases Nat.lt_succ_iff_lt_or_eq.1 hj with h1|h1
     ·exact hr j h1
     ·rw [h1];exact hx
    generalize zs.getD k 0=x at hck hne
    clear hc hr h hx hl
    go_wp2
    go_round
    case rel=>exact ⟨k+1,by omega,by go_num,HR.out⟩
    case measure=>simp [intOf];omega
  ·have HE:Hid (BM zs m=false):=by
    unfold Hid
    rw [Bool.eq_false_iff]
    intro e
    obtain ⟨j,hj,hje⟩:=List.getElem_of_mem (BN.1 e)
    refine hr j (by omega) ?_
    rw [ajg,ajh hj]
    exact hje
   clear hr h hl
   go_wp2
   go_ret
   exact ⟨by rw [HE.out];rfl,rfl⟩
section
variable {H:Type} {enc:TypeId × Value->H} {P:Program} {w:World} {bP:Nat} {sp:Nat->Bool} {held:Bool}
theorem Dt {fuel n s:Nat} {t e:TypeId} {cs:List Value} {ds:List (DataW H)} {p:List MemPlace} (ht:P.underlying t=some (.array n e)) (hc:P.cellsOf e=s) (hct:P.cellsOf t=n*s)
 (h:DataW.trod enc P w bP sp held fuel t cs=some (.agg ds,p)):cs.length=n*s/\ds.length=n/\∃ m,∀ i d,ds[i]?=some d->∃ q,DataW.trod enc P w bP sp held m e ((cs.drop (i*s)).take s)=some (d,q):=by
 obtain ⟨xs,m,rfl,hx,hl,hn,hel⟩:=DataW.trod_array ht h
 simp only [Prod.mk.injEq,DataW.agg.injEq] at hx
 obtain ⟨rfl,_⟩:=hx
 refine ⟨by rw [hl,hct],by simpa using hn,m,fun i d hd=>?_⟩
 rw [List.getElem?_map,Option.map_eq_some_iff] at hd
 obtain ⟨x,hx,rfl⟩:=hd
 have hi:i<n:=by rw [<- hn];exact (List.getElem?_eq_some_iff.1 hx).1
 have:=hel i hi
 rw [hc,hx] at this
 exact ⟨x.2,this⟩
theorem uH {fuel:Nat} {t e:TypeId} {k:IntKind} {cs:List Value} {a b:Int} {p:List MemPlace} (ht:P.underlying t=some (.array 2 e)) (he:P.underlying e=some (.int k)) (hce:P.cellsOf e=1) (hct:P.cellsOf t=2)
 (h:DataW.trod enc P w bP sp held fuel t cs=some (.agg [.lit (.int k a),.lit (.int k b)],p)):cs=[.int k a,.int k b] :=
 Lib.cells_of_tab (zs:=[a,b]) ht he hce hct h
theorem VR {fuel:Nat} {e:TypeId} {cs:List Value} {a:List UInt8} {p:List MemPlace} (he:P.underlying e=some .string) (h:DataW.trod enc P w bP sp held fuel e cs=some (.lit (.string a),p)):cs=[.string ⟨a.toArray⟩]:=by
 obtain ⟨s,rfl,hx,_⟩:=DataW.trod_string he h
 simp only [Prod.mk.injEq,DataW.lit.injEq,Lit.string.injEq] at hx
 obtain ⟨rfl,_⟩:=hx
 simp
theorem sF {fuel:Nat} {t e:TypeId} {cs:List Value} {a b:List UInt8} {p:List MemPlace} (ht:P.underlying t=some (.array 2 e)) (he:P.underlying e=some .string) (hce:P.cellsOf e=1) (hct:P.cellsOf t=2)
 (h:DataW.trod enc P w bP sp held fuel t cs=some (.agg [.lit (.string a),.lit (.string b)],p)):cs=[.string ⟨a.toArray⟩,.string ⟨b.toArray⟩]:=by
 obtain ⟨hl,_,m,hel⟩:=Dt (s:=1) ht hce (by rw [hct]) h
 obtain ⟨q,h0⟩:=hel 0 _ rfl
 obtain ⟨q',h1⟩:=hel 1 _ rfl
 have e0:=VR he h0
 have e1:=VR he h1
 match cs,hl with
 | [x,y],_ =>
   simp at e0 e1
   rw [e0,e1]
end
def Xf:List Int:=[1,4096,16,256,1,8,1,64,0,64,1,256,1,4096]
def zM:List (List UInt8):=[[],[],[97,108,108,111,99],[114,115],[108,111,97,100],[114,114,102],[115,116,111,114,101],[114,102,114],[103,101,116],[114,99],[115,101,116],[99,114],[100,114,111,112],[114],[109,111,118,101],[114,114],[115,97,102,101],[]]
structure lu (w:World):Prop where
 xg:∀ i r,Xf[i]?=some r->w.cell? ⟨3,i,none⟩=some (ah r)
 kind:∀ i s,zM[i]?=some s->w.cell? ⟨4,i,none⟩=some (.string ⟨s.toArray⟩)
theorem lu.aK {w w':World} (h:lu w) (k:aj aB w w'):lu w':=⟨fun i r hr=>k.still (h.xg i r hr),fun i s hs=>k.still (h.kind i s hs)⟩
theorem Tryz.tabU1:aA.underlying 250=some (.array 7 106):=by kernel_rfl
theorem Tryz.tabU2:aA.underlying 106=some (.array 2 3):=by kernel_rfl
theorem Tryz.tabU3:aA.underlying 255=some (.array 9 254):=by kernel_rfl
theorem Tryz.tabU4:aA.underlying 254=some (.array 2 9):=by kernel_rfl
theorem Tryz.tabU5:aA.underlying 9=some .string:=by kernel_rfl
theorem Tryz.tabU6:aA.underlying 3=some (.int .i64):=by kernel_rfl
theorem afe {eP : List (String × DataW Unit)} {w : World} (h : laidMet aA (("dustpan/config.limits", Rows.laid_dustpan_config_limits) :: eP) w) : ∀ i r, Xf[i]? = some r -> w.cell? ⟨3, i, none⟩ = some (ah r) := by
 ·obtain ⟨ps,⟨g,t,cs,fuel,p,q,hg,ht,hvar,hd,_,_⟩,_⟩:=h
  obtain rfl : 3 = g := Option.some.inj ((show aA.globalNamed "dustpan/config.limits" = some 3 by kernel_rfl).symm.trans hg)
  obtain rfl:250=t:=Option.some.inj ((show (aA.globals[3]?).map (·.type)=some 250 by kernel_rfl).symm.trans ht)
  obtain ⟨cs,rfl⟩:∃ l:List Value,cs=l.toArray:=⟨cs.toList,by simp⟩
  obtain ⟨hl,_,m,hel⟩:=Dt (s:=2) Tryz.tabU1 (by kernel_rfl) (by kernel_rfl) hd
  have key:cs=Xf.map (Value.int .i64):=by
   obtain ⟨q0,h0⟩:=hel 0 _ rfl
   obtain ⟨q1,h1⟩:=hel 1 _ rfl
   obtain ⟨q2,h2⟩:=hel 2 _ rfl
   obtain ⟨q3,h3⟩:=hel 3 _ rfl
   obtain ⟨q4,h4⟩:=hel 4 _ rfl
   obtain ⟨q5,h5⟩:=hel 5 _ rfl
   obtain ⟨q6,h6⟩:=hel 6 _ rfl
   have e0:=uH Tryz.tabU2 Tryz.tabU6 (by kernel_rfl) (by kernel_rfl) h0
   have e1:=uH Tryz.tabU2 Tryz.tabU6 (by kernel_rfl) (by kernel_rfl) h1
   have e2:=uH Tryz.tabU2 Tryz.tabU6 (by kernel_rfl) (by kernel_rfl) h2
   have e3:=uH Tryz.tabU2 Tryz.tabU6 (by kernel_rfl) (by kernel_rfl) h3
   have e4:=uH Tryz.tabU2 Tryz.tabU6 (by kernel_rfl) (by kernel_rfl) h4
   have e5:=uH Tryz.tabU2 Tryz.tabU6 (by kernel_rfl) (by kernel_rfl) h5
   have e6:=uH Tryz.tabU2 Tryz.tabU6 (by kernel_rfl) (by kernel_rfl) h6
   clear h0 h1 h2 h3 h4 h5 h6 hel hd hvar
   match cs,hl with
   | [a0,a1,a2,a3,a4,a5,a6,a7,a8,a9,a10,a11,a12,a13],_ =>
     simp at e0 e1 e2 e3 e4 e5 e6
     simp [Xf,e0,e1,e2,e3,e4,e5,e6]
  intro i r hr
  rw [ajp (P:=aA) hg hvar i,key]
  simp [hr]
theorem adV {eP : List (String × DataW Unit)} {w : World} (h2 : laidMet aA (("dustpan/op.kinds", Rows.laid_dustpan_op_kinds) :: eP) w) : ∀ i s, zM[i]? = some s -> w.cell? ⟨4, i, none⟩ = some (.string ⟨s.toArray⟩) := by
 ·obtain ⟨ps,⟨g,t,cs,fuel,p,q,hg,ht,hvar,hd,_,_⟩,_⟩:=h2
  obtain rfl : 4 = g := Option.some.inj ((show aA.globalNamed "dustpan/op.kinds" = some 4 by kernel_rfl).symm.trans hg)
  obtain rfl:255=t:=Option.some.inj ((show (aA.globals[4]?).map (·.type)=some 255 by kernel_rfl).symm.trans ht)
  obtain ⟨cs,rfl⟩:∃ l:List Value,cs=l.toArray:=⟨cs.toList,by simp⟩
  obtain ⟨hl,_,m,hel⟩:=Dt (s:=2) Tryz.tabU3 (by kernel_rfl) (by kernel_rfl) hd
  have key:cs=zM.map (fun s=>Value.string ⟨s.toArray⟩):=by
   obtain ⟨q0,h0⟩:=hel 0 _ rfl
   obtain ⟨q1,h1⟩:=hel 1 _ rfl
   obtain ⟨q2,h2⟩:=hel 2 _ rfl
   obtain ⟨q3,h3⟩:=hel 3 _ rfl
   obtain ⟨q4,h4⟩:=hel 4 _ rfl
   obtain ⟨q5,h5⟩:=hel 5 _ rfl
   obtain ⟨q6,h6⟩:=hel 6 _ rfl
   obtain ⟨q7,h7⟩:=hel 7 _ rfl
   obtain ⟨q8,h8⟩:=hel 8 _ rfl
   have e0:=sF Tryz.tabU4 Tryz.tabU5 (by kernel_rfl) (by kernel_rfl) h0
   have e1:=sF Tryz.tabU4 Tryz.tabU5 (by kernel_rfl) (by kernel_rfl) h1
   have e2:=sF Tryz.tabU4 Tryz.tabU5 (by kernel_rfl) (by kernel_rfl) h2
   have e3:=sF Tryz.tabU4 Tryz.tabU5 (by kernel_rfl) (by kernel_rfl) h3
   have e4:=sF Tryz.tabU4 Tryz.tabU5 (by kernel_rfl) (by kernel_rfl) h4
   have e5:=sF Tryz.tabU4 Tryz.tabU5 (by kernel_rfl) (by kernel_rfl) h5
   have e6:=sF Tryz.tabU4 Tryz.tabU5 (by kernel_rfl) (by kernel_rfl) h6
   have e7:=sF Tryz.tabU4 Tryz.tabU5 (by kernel_rfl) (by kernel_rfl) h7
   have e8:=sF Tryz.tabU4 Tryz.tabU5 (by kernel_rfl) (by kernel_rfl) h8
   clear h0 h1 h2 h3 h4 h5 h6 h7 h8 hel hd hvar
   match cs,hl with
   | [a0,a1,a2,a3,a4,a5,a6,a7,a8,a9,a10,a11,a12,a13,a14,a15,a16,a17],_ =>
     simp at e0 e1 e2 e3 e4 e5 e6 e7 e8
     simp [zM,e0,e1,e2,e3,e4,e5,e6,e7,e8]
  intro i s hs
  rw [ajp (P:=aA) hg hvar i,key]
  simp [hs]
theorem abq {x m:Int}:(x.tmod m+m)%m=x%m:=by
 rw [Int.add_emod_right,Int.tmod_eq_emod]
 split
 ·simp
 ·rw [Int.sub_emod,Int.emod_emod]
  have:((m.natAbs:Int))%m=0:=by
   rcases Int.natAbs_eq m with h|h
   ·rw [<- h];simp
   ·have:(m.natAbs:Int) = -m:=by omega
    rw [this];simp
  rw [this];simp
theorem aff (x m:Int) (hm:0<m) (hm2:m<=1000) (w:World):Calls aA 66 #[ah x,ah m] w fun e w'=>e = .returned (ah (x%m))/\w'=w:=by
 have h0:(m==0)=false:=by simp;omega
 have h1 : -m<x.tmod m:=by
  have:=Int.lt_tmod_of_pos x hm
  omega
 have h2:x.tmod m<m:=Int.tmod_lt_of_pos x hm
 have HE:=ay (abq (x:=x) (m:=m))
 go_enter func66,ntmps66
 go_wp2
 go_ret
 exact ⟨by rw [<- HE.out];rfl,rfl⟩
structure bK where
 b:Int
 w:Int
 m:Int
 r:Int
 c:Int
 l:Int
 s:Int
deriving DecidableEq
def bK.cells (c:bK):List Value:=[ah c.b,ah c.w,ah c.m,ah c.r,ah c.c,ah c.l,ah c.s]
def bK.bJ (c:bK):bK:=⟨1+c.b%4,16+c.w%20,1+c.m%4,1+c.r%5,c.c%4,1+c.l%4,1+c.s%4⟩
theorem BO {x m p:Int} (hp:Hid (x%m=p)) (hm:0<m) (hm2:m<=1000) (w:World):Calls aA 66 #[ah x,ah m] w fun e w'=>e = .returned (ah p)/\w'=w:=by
 rw [<- hp.out];exact aff x m hm hm2 w
theorem zC (x m:Int) (hm:0<m):∃ p,Hid (x%m=p)/\0<=p/\p<m:=⟨x%m,rfl,Int.emod_nonneg x (by omega),Int.emod_lt_of_pos x hm⟩
theorem Xg (c:bK) (w:World):Calls aA 38 #[.agg c.cells.toArray] w fun e w'=>e = .returned (.agg c.bJ.cells.toArray)/\aj aB w w':=by
 obtain ⟨b,ww,m,r,cc,l,s⟩:=c
 simp only [bK.cells,bK.bJ]
 obtain ⟨p0,H0,l0,g0⟩:=zC b 4 (by decide)
 obtain ⟨p1,H1,l1,g1⟩:=zC ww 20 (by decide)
 obtain ⟨p2,H2,l2,g2⟩:=zC m 4 (by decide)
 obtain ⟨p3,H3,l3,g3⟩:=zC r 5 (by decide)
 obtain ⟨p4,H4,l4,g4⟩:=zC cc 4 (by decide)
 obtain ⟨p5,H5,l5,g5⟩:=zC l 4 (by decide)
 obtain ⟨p6,H6,l6,g6⟩:=zC s 4 (by decide)
 rw [H0.out,H1.out,H2.out,H3.out,H4.out,H5.out,H6.out]
 obtain ⟨W0,hW0⟩:∃ W',W'=(w.alloc (.cells #[ah b,ah ww,ah m,ah r,ah cc,ah l,ah s] 23)).alloc (.cells #[ah 0,ah 0,ah 0,ah 0,ah 0,ah 0,ah 0] 23):=⟨_,rfl⟩
 have HA:Hid (aF W0 w.heap.size [ah b,ah ww,ah m,ah r,ah cc,ah l,ah s] 23):=by rw [hW0];exact (aF.bC w _ _).alloc _
 have HB:Hid (aF W0 (w.heap.size+1) [ah 0,ah 0,ah 0,ah 0,ah 0,ah 0,ah 0] 23):=by rw [hW0];have h:=aF.bC (w.alloc (.cells #[ah b,ah ww,ah m,ah r,ah cc,ah l,ah s] 23)) [ah 0,ah 0,ah 0,ah 0,ah 0,ah 0,ah 0] 23;simp only [ajq] at h;exact h
 have HK:Hid (aj aB w W0):=by rw [hW0];exact ((aj.refl _ _).alloc _).alloc _
 go_enter func38,ntmps38
 go_wp2_with fail
 rw [<- hW0]
 clear hW0
 have d0:=HA.out.cell 0 rfl;have d1:=HA.out.cell 1 rfl;have d2:=HA.out.cell 2 rfl;have d3:=HA.out.cell 3 rfl;have d4:=HA.out.cell 4 rfl;have d5:=HA.out.cell 5 rfl;have d6:=HA.out.cell 6 rfl
 refine wp_region_still_tail 28 (by kernel_rfl) (by kernel_rfl) ?_
 change wpStill _ _ (ajr _) _ _ _
 simp only [List.take_succ_cons,ajs,ajt,ajn]
 still_step
 still_step
 still_call (BO H0 (by decide) (by decide) _)
 still_step
 still_step
 still_step
 still_call (BO H1 (by decide) (by decide) _)
 still_step
 still_step
 still_step
 still_call (BO H2 (by decide) (by decide) _)
 still_step
 still_step
 still_step
 still_call (BO H3 (by decide) (by decide) _)
 still_step
 still_step
 still_step
 still_call (BO H4 (by decide) (by decide) _)
 still_step
 still_step
 still_call (BO H5 (by decide) (by decide) _)
 still_step
 still_step
 still_step
 still_call (BO H6 (by decide) (by decide) _)
 still_step
 still_step
 refine wpStill_nil ?_
 change wpList _ _ _ _ _ W0.drew
 have z0:=HB.out.free 0;have z1:=HB.out.free 1;have z2:=HB.out.free 2;have z3:=HB.out.free 3;have z4:=HB.out.free 4;have z5:=HB.out.free 5;have z6:=HB.out.free 6
 have y0:=HB.out.cell 0 rfl;have y1:=HB.out.cell 1 rfl;have y2:=HB.out.cell 2 rfl;have y3:=HB.out.cell 3 rfl;have y4:=HB.out.cell 4 rfl;have y5:=HB.out.cell 5 rfl;have y6:=HB.out.cell 6 rfl
 go_wp2_with fail
 have hB:=((((((HB.out.set 0 (ah (1+p0))).set 1 (ah (16+p1))).set 2 (ah (1+p2))).set 3 (ah (1+p3))).set 4 (ah p4)).set 5 (ah (1+p5))).set 6 (ah (1+p6))
 have hk:=((((((HK.out.iP (B:=w.heap.size+1) (aju _) 0 (ah (1+p0))).iP (B:=w.heap.size+1) (aju _) 1 (ah (16+p1))).iP (B:=w.heap.size+1) (aju _) 2 (ah (1+p2))).iP (B:=w.heap.size+1) (aju _) 3 (ah (1+p3))).iP (B:=w.heap.size+1) (aju _) 4 (ah p4)).iP (B:=w.heap.size+1) (aju _) 5 (ah (1+p5))).iP (B:=w.heap.size+1) (aju _) 6 (ah (1+p6))
 have k0:=hB.cell 0 rfl;have k1:=hB.cell 1 rfl;have k2:=hB.cell 2 rfl;have k3:=hB.cell 3 rfl;have k4:=hB.cell 4 rfl;have k5:=hB.cell 5 rfl;have k6:=hB.cell 6 rfl
 exact bodyPost_ret (by simp [results,Tryz.f38,go_sem,k0,k1,k2,k3,k4,k5,k6]) rfl ⟨rfl,hk.drew⟩
end
section
open Go.Sort Go.RowKit
section
variable {F:Fence} {n:Nat} {P:Program} {ops:Array Oper} {md:Region.Mode} {C:World->Prop}
end
theorem Gx (w:World) (d:Nat) (os:Array Obj):aj aB w (grow (redrawn w d) os):=aj.VQ (below_regrown w d os) _
theorem Qv {P:Program} {f:FuncId} {args:Array Value} {w:World} {d:Nat} {os:Array Obj} {v:Value}
 (h:Calls P f args (grow (redrawn w d) os) fun e w'=>e = .returned v/\aj aB (grow (redrawn w d) os) w'):Calls P f args (grow (redrawn w d) os) fun e w''=>e = .returned v/\∃ p:Regrown,w''=grow (redrawn w p.d) p.os :=
 Calls.regrown_of (h.mono fun _ _ ⟨he,hk⟩=>⟨he,hk.toBelow⟩)
end
section
open Go.RowKit Go.Sort
def Gy (B:Nat):List Value:=[au B,.pointer (some ⟨B,1,none⟩),.pointer (some ⟨B,2,none⟩),.pointer (some ⟨B,3,none⟩),.pointer (some ⟨B,4,none⟩),.pointer (some ⟨B,5,none⟩),.pointer (some ⟨B,6,none⟩)]
theorem U3 (B:Nat) (w:World):Calls aA 236 #[au B] w fun e w'=>e = .returned (.agg (Gy B).toArray)/\aj aB w w':=by
 obtain ⟨W0,hW0⟩:∃ W',W'=w.alloc (.cells #[.pointer none,.pointer none,.pointer none,.pointer none,.pointer none,.pointer none,.pointer none] 247):=⟨_,rfl⟩
 have HB:Hid (aF W0 w.heap.size [.pointer none,.pointer none,.pointer none,.pointer none,.pointer none,.pointer none,.pointer none] 247):=by rw [hW0];exact aF.bC w _ _
 have HK:Hid (aj aB w W0):=by rw [hW0];exact (aj.refl _ _).alloc _
 go_enter func236,ntmps236
 go_wp2_with fail
 rw [<- hW0]
 clear hW0
 refine wp_region_still_tail 22 (by kernel_rfl) (by kernel_rfl) ?_
 change wpStill _ _ (ajr _) _ _ _
 simp only [List.take_succ_cons,ajs,ajt,ajn]
 repeat still_step
 refine wpStill_nil ?_
 change wpList _ _ _ _ _ W0.drew
 have z0:=HB.out.free 0;have z1:=HB.out.free 1;have z2:=HB.out.free 2;have z3:=HB.out.free 3;have z4:=HB.out.free 4;have z5:=HB.out.free 5;have z6:=HB.out.free 6
 have y0:=HB.out.cell 0 rfl;have y1:=HB.out.cell 1 rfl;have y2:=HB.out.cell 2 rfl;have y3:=HB.out.cell 3 rfl;have y4:=HB.out.cell 4 rfl;have y5:=HB.out.cell 5 rfl;have y6:=HB.out.cell 6 rfl
 go_wp2_with fail
 have hB:=((((((HB.out.set 0 (au B)).set 1 (.pointer (some ⟨B,1,none⟩))).set 2 (.pointer (some ⟨B,2,none⟩))).set 3 (.pointer (some ⟨B,3,none⟩))).set 4 (.pointer (some ⟨B,4,none⟩))).set 5 (.pointer (some ⟨B,5,none⟩))).set 6 (.pointer (some ⟨B,6,none⟩))
 have hk:=((((((HK.out.iP (B:=w.heap.size) (aje _) 0 (au B)).iP (B:=w.heap.size) (aje _) 1 (.pointer (some ⟨B,1,none⟩))).iP (B:=w.heap.size) (aje _) 2 (.pointer (some ⟨B,2,none⟩))).iP (B:=w.heap.size) (aje _) 3 (.pointer (some ⟨B,3,none⟩))).iP (B:=w.heap.size) (aje _) 4 (.pointer (some ⟨B,4,none⟩))).iP (B:=w.heap.size) (aje _) 5 (.pointer (some ⟨B,5,none⟩))).iP (B:=w.heap.size) (aje _) 6 (.pointer (some ⟨B,6,none⟩))
 have k0:=hB.cell 0 rfl;have k1:=hB.cell 1 rfl;have k2:=hB.cell 2 rfl;have k3:=hB.cell 3 rfl;have k4:=hB.cell 4 rfl;have k5:=hB.cell 5 rfl;have k6:=hB.cell 6 rfl
 exact bodyPost_ret (by simp [results,Gy,Tryz.f236,go_sem,k0,k1,k2,k3,k4,k5,k6]) rfl ⟨rfl,hk.drew⟩
def dZ (lo hi x:Int):Int:=max lo (min hi x)
def bK.Du (c:bK):bK:=⟨dZ 1 4096 c.b,dZ 16 256 c.w,dZ 1 8 c.m,dZ 1 64 c.r,dZ 0 64 c.c,dZ 1 256 c.l,dZ 1 4096 c.s⟩
def bK.ok (c:bK):Bool:=decide (1<=c.b/\c.b<=4096)&&decide (16<=c.w/\c.w<=256)&&decide (1<=c.m/\c.m<=8)&&decide (1<=c.r/\c.r<=64)&&decide (0<=c.c/\c.c<=64)&&decide (1<=c.l/\c.l<=256)&&decide (1<=c.s/\c.s<=4096)
def bK.part (c:bK) (k:Nat):List Value:=c.Du.cells.take k++c.cells.drop k
theorem Zc (c:bK) (w:World) (hT:lu w):Calls aA 200 #[.agg c.cells.toArray] w fun e w'=>e = .returned (.agg c.Du.cells.toArray)/\aj aB w w':=by
 obtain ⟨b,ww,m,r,cc,l,s⟩:=c
 have HT:=ay hT
 clear hT
 obtain ⟨W0,hW0⟩:∃ W',W'=(w.alloc (.cells #[ah b,ah ww,ah m,ah r,ah cc,ah l,ah s] 23)).alloc (.cells #[ah 0,ah 0,ah 0,ah 0,ah 0,ah 0,ah 0] 23):=⟨_,rfl⟩
 have HA:Hid (aF W0 w.heap.size (bK.part ⟨b,ww,m,r,cc,l,s⟩ 0) 23):=by rw [hW0];exact (aF.bC w _ _).alloc _
 have HB:Hid (aF W0 (w.heap.size+1) [ah 0,ah 0,ah 0,ah 0,ah 0,ah 0,ah 0] 23):=by rw [hW0];have h:=aF.bC (w.alloc (.cells #[ah b,ah ww,ah m,ah r,ah cc,ah l,ah s] 23)) [ah 0,ah 0,ah 0,ah 0,ah 0,ah 0,ah 0] 23;simp only [ajq] at h;exact h
 have HK:Hid (aj aB w W0):=by rw [hW0];exact ((aj.refl _ _).alloc _).alloc _
 simp only [bK.cells]
 go_enter func200,ntmps200
 go_wp2_with fail
 rw [<- hW0]
 clear hW0
 refine (U3 _ _).mono ?_
 rintro e w1 ⟨rfl,hk1⟩
 have HA1:=ay (hk1.aH HA.out (fun f=>f))
 have HB1:=ay (hk1.aH HB.out (fun f=>f))
 have bI:=ay (HK.out.trans hk1)
 clear hk1 HA HB HK
 simp only [Gy]
 go_wp2_with fail
 go_loopg [3,4,6] 7 (fun g x y i wr=>∃ k:Nat,g+k=7/\i = ah k/\Hid (aF wr w.heap.size (bK.part ⟨b,ww,m,r,cc,l,s⟩ k) 23)/\Hid (aF wr (w.heap.size+1) [ah 0,ah 0,ah 0,ah 0,ah 0,ah 0,ah 0] 23)/\Hid (aj aB w wr))
 case atStart=>exact ⟨0,rfl,rfl,HA1,HB1,bI⟩
 case round =>
  obtain ⟨k,hg,rfl,HA2,HB2,dF⟩:=hrel
  clear HA1 HB1 bI
  have e:k=0\/k=1\/k=2\/k=3\/k=4\/k=5\/k=6\/k=7:=by omega
  rcases e with rfl|rfl|rfl|rfl|rfl|rfl|rfl|rfl
  ·have hix:∀ w':World,(Instr.index 247 (.agg (#[au w.heap.size,.pointer (some ⟨w.heap.size,1,none⟩),.pointer (some ⟨w.heap.size,2,none⟩),.pointer (some ⟨w.heap.size,3,none⟩),.pointer (some ⟨w.heap.size,4,none⟩),.pointer (some ⟨w.heap.size,5,none⟩),.pointer (some ⟨w.heap.size,6,none⟩)])) (ah 0)).run aA w' = .ok (au w.heap.size) w':=fun w'=>by kernel_rfl
   simp only [show (((0:Nat):Int))=0 from rfl]
   have d:=HA2.out.cell 0 (v := ah b) rfl
   have z:=HA2.out.free 0
   have m0:=(HT.out.aK dF.out).xg 0 _ rfl
   have m1:=(HT.out.aK dF.out).xg 1 _ rfl
   have HN:Hid (aF ((wr.setCell ⟨w.heap.size,0,none⟩ (ah (dZ 1 4096 b))).drew) w.heap.size (bK.part ⟨b,ww,m,r,cc,l,s⟩ 1) 23):=(HA2.out.set 0 (ah (dZ 1 4096 b))).drew
   have jI:Hid (aF ((wr.setCell ⟨w.heap.size,0,none⟩ (ah (dZ 1 4096 b))).drew) (w.heap.size+1) [ah 0,ah 0,ah 0,ah 0,ah 0,ah 0,ah 0] 23):=(HB2.out.uh (a:=⟨w.heap.size,0,none⟩) (by simp) _).drew
   have jQ:Hid (aj aB w ((wr.setCell ⟨w.heap.size,0,none⟩ (ah (dZ 1 4096 b))).drew)):=(dF.out.iP (aje _) _ _).drew
   go_wp2_with fail
   refine wp_region_still_tail 15 (by kernel_rfl) (by kernel_rfl) ?_
   change wpStill _ _ (ajr _) _ _ _
   simp only [List.take_succ_cons,ajs,ajt,ajn]
   repeat still_step
   refine wpStill_nil ?_
   change wpList _ _ _ _ _ wr.drew
   go_wp2_with fail
   all_goals first
    | (have hv:dZ 1 4096 b=b:=by unfold dZ;omega
       rw [hv] at HN jI jQ
       go_roundg (gk - 1)
       case measure=>omega
       case rel=>exact ⟨1,by omega,rfl,HN,jI,jQ⟩)
    | (have hv:dZ 1 4096 b=1:=by unfold dZ;omega
       rw [hv] at HN jI jQ
       go_roundg (gk - 1)
       case measure=>omega
       case rel=>exact ⟨1,by omega,rfl,HN,jI,jQ⟩)
    | (have hv:dZ 1 4096 b=4096:=by unfold dZ;omega
       rw [hv] at HN jI jQ
       go_roundg (gk - 1)
       case measure=>omega
       case rel=>exact ⟨1,by omega,rfl,HN,jI,jQ⟩)
  ·have hix:∀ w':World,(Instr.index 247 (.agg (#[au w.heap.size,.pointer (some ⟨w.heap.size,1,none⟩),.pointer (some ⟨w.heap.size,2,none⟩),.pointer (some ⟨w.heap.size,3,none⟩),.pointer (some ⟨w.heap.size,4,none⟩),.pointer (some ⟨w.heap.size,5,none⟩),.pointer (some ⟨w.heap.size,6,none⟩)])) (ah 1)).run aA w' = .ok (.pointer (some ⟨w.heap.size,1,none⟩)) w':=fun w'=>by kernel_rfl
   simp only [show (((1:Nat):Int))=1 from rfl]
   have d:=HA2.out.cell 1 (v := ah ww) rfl
   have z:=HA2.out.free 1
   have m0:=(HT.out.aK dF.out).xg 2 _ rfl
   have m1:=(HT.out.aK dF.out).xg 3 _ rfl
   have HN:Hid (aF ((wr.setCell ⟨w.heap.size,1,none⟩ (ah (dZ 16 256 ww))).drew) w.heap.size (bK.part ⟨b,ww,m,r,cc,l,s⟩ 2) 23):=(HA2.out.set 1 (ah (dZ 16 256 ww))).drew
   have jI:Hid (aF ((wr.setCell ⟨w.heap.size,1,none⟩ (ah (dZ 16 256 ww))).drew) (w.heap.size+1) [ah 0,ah 0,ah 0,ah 0,ah 0,ah 0,ah 0] 23):=(HB2.out.uh (a:=⟨w.heap.size,1,none⟩) (by simp) _).drew
   have jQ:Hid (aj aB w ((wr.setCell ⟨w.heap.size,1,none⟩ (ah (dZ 16 256 ww))).drew)):=(dF.out.iP (aje _) _ _).drew
   go_wp2_with fail
   refine wp_region_still_tail 15 (by kernel_rfl) (by kernel_rfl) ?_
   change wpStill _ _ (ajr _) _ _ _
   simp only [List.take_succ_cons,ajs,ajt,ajn]
   repeat still_step
   refine wpStill_nil ?_
   change wpList _ _ _ _ _ wr.drew
   go_wp2_with fail
   all_goals first
    | (have hv:dZ 16 256 ww=ww:=by unfold dZ;omega
       rw [hv] at HN jI jQ
       go_roundg (gk - 1)
       case measure=>omega
       case rel=>exact ⟨2,by omega,rfl,HN,jI,jQ⟩)
    | (have hv:dZ 16 256 ww=16:=by unfold dZ;omega
       rw [hv] at HN jI jQ
       go_roundg (gk - 1)
       case measure=>omega
       case rel=>exact ⟨2,by omega,rfl,HN,jI,jQ⟩)
    | (have hv:dZ 16 256 ww=256:=by unfold dZ;omega
       rw [hv] at HN jI jQ
       go_roundg (gk - 1)
       case measure=>omega
       case rel=>exact ⟨2,by omega,rfl,HN,jI,jQ⟩)
  ·have hix:∀ w':World,(Instr.index 247 (.agg (#[au w.heap.size,.pointer (some ⟨w.heap.size,1,none⟩),.pointer (some ⟨w.heap.size,2,none⟩),.pointer (some ⟨w.heap.size,3,none⟩),.pointer (some ⟨w.heap.size,4,none⟩),.pointer (some ⟨w.heap.size,5,none⟩),.pointer (some ⟨w.heap.size,6,none⟩)])) (ah 2)).run aA w' = .ok (.pointer (some ⟨w.heap.size,2,none⟩)) w':=fun w'=>by kernel_rfl
   simp only [show (((2:Nat):Int))=2 from rfl]
   have d:=HA2.out.cell 2 (v := ah m) rfl
   have z:=HA2.out.free 2
   have m0:=(HT.out.aK dF.out).xg 4 _ rfl
   have m1:=(HT.out.aK dF.out).xg 5 _ rfl
   have HN:Hid (aF ((wr.setCell ⟨w.heap.size,2,none⟩ (ah (dZ 1 8 m))).drew) w.heap.size (bK.part ⟨b,ww,m,r,cc,l,s⟩ 3) 23):=(HA2.out.set 2 (ah (dZ 1 8 m))).drew
   have jI:Hid (aF ((wr.setCell ⟨w.heap.size,2,none⟩ (ah (dZ 1 8 m))).drew) (w.heap.size+1) [ah 0,ah 0,ah 0,ah 0,ah 0,ah 0,ah 0] 23):=(HB2.out.uh (a:=⟨w.heap.size,2,none⟩) (by simp) _).drew
   have jQ:Hid (aj aB w ((wr.setCell ⟨w.heap.size,2,none⟩ (ah (dZ 1 8 m))).drew)):=(dF.out.iP (aje _) _ _).drew
   go_wp2_with fail
   refine wp_region_still_tail 15 (by kernel_rfl) (by kernel_rfl) ?_
   change wpStill _ _ (ajr _) _ _ _
   simp only [List.take_succ_cons,ajs,ajt,ajn]
   repeat still_step
   refine wpStill_nil ?_
   change wpList _ _ _ _ _ wr.drew
   go_wp2_with fail
   all_goals first
    | (have hv:dZ 1 8 m=m:=by unfold dZ;omega
       rw [hv] at HN jI jQ
       go_roundg (gk - 1)
       case measure=>omega
       case rel=>exact ⟨3,by omega,rfl,HN,jI,jQ⟩)
    | (have hv:dZ 1 8 m=1:=by unfold dZ;omega
       rw [hv] at HN jI jQ
       go_roundg (gk - 1)
       case measure=>omega
       case rel=>exact ⟨3,by omega,rfl,HN,jI,jQ⟩)
    | (have hv:dZ 1 8 m=8:=by unfold dZ;omega
       rw [hv] at HN jI jQ
       go_roundg (gk - 1)
       case measure=>omega
       case rel=>exact ⟨3,by omega,rfl,HN,jI,jQ⟩)
  ·have hix:∀ w':World,(Instr.index 247 (.agg (#[au w.heap.size,.pointer (some ⟨w.heap.size,1,none⟩),.pointer (some ⟨w.heap.size,2,none⟩),.pointer (some ⟨w.heap.size,3,none⟩),.pointer (some ⟨w.heap.size,4,none⟩),.pointer (some ⟨w.heap.size,5,none⟩),.pointer (some ⟨w.heap.size,6,none⟩)])) (ah 3)).run aA w' = .ok (.pointer (some ⟨w.heap.size,3,none⟩)) w':=fun w'=>by kernel_rfl
   simp only [show (((3:Nat):Int))=3 from rfl]
   have d:=HA2.out.cell 3 (v := ah r) rfl
   have z:=HA2.out.free 3
   have m0:=(HT.out.aK dF.out).xg 6 _ rfl
   have m1:=(HT.out.aK dF.out).xg 7 _ rfl
   have HN:Hid (aF ((wr.setCell ⟨w.heap.size,3,none⟩ (ah (dZ 1 64 r))).drew) w.heap.size (bK.part ⟨b,ww,m,r,cc,l,s⟩ 4) 23):=(HA2.out.set 3 (ah (dZ 1 64 r))).drew
   have jI:Hid (aF ((wr.setCell ⟨w.heap.size,3,none⟩ (ah (dZ 1 64 r))).drew) (w.heap.size+1) [ah 0,ah 0,ah 0,ah 0,ah 0,ah 0,ah 0] 23):=(HB2.out.uh (a:=⟨w.heap.size,3,none⟩) (by simp) _).drew
   have jQ:Hid (aj aB w ((wr.setCell ⟨w.heap.size,3,none⟩ (ah (dZ 1 64 r))).drew)):=(dF.out.iP (aje _) _ _).drew
   go_wp2_with fail
   refine wp_region_still_tail 15 (by kernel_rfl) (by kernel_rfl) ?_
   change wpStill _ _ (ajr _) _ _ _
   simp only [List.take_succ_cons,ajs,ajt,ajn]
   repeat still_step
   refine wpStill_nil ?_
   change wpList _ _ _ _ _ wr.drew
   go_wp2_with fail
   all_goals first
    | (have hv:dZ 1 64 r=r:=by unfold dZ;omega
       rw [hv] at HN jI jQ
       go_roundg (gk - 1)
       case measure=>omega
       case rel=>exact ⟨4,by omega,rfl,HN,jI,jQ⟩)
    | (have hv:dZ 1 64 r=1:=by unfold dZ;omega
       rw [hv] at HN jI jQ
       go_roundg (gk - 1)
       case measure=>omega
       case rel=>exact ⟨4,by omega,rfl,HN,jI,jQ⟩)
    | (have hv:dZ 1 64 r=64:=by unfold dZ;omega
       rw [hv] at HN jI jQ
       go_roundg (gk - 1)
       case measure=>omega
       case rel=>exact ⟨4,by omega,rfl,HN,jI,jQ⟩)
  ·have hix:∀ w':World,(Instr.index 247 (.agg (#[au w.heap.size,.pointer (some ⟨w.heap.size,1,none⟩),.pointer (some ⟨w.heap.size,2,none⟩),.pointer (some ⟨w.heap.size,3,none⟩),.pointer (some ⟨w.heap.size,4,none⟩),.pointer (some ⟨w.heap.size,5,none⟩),.pointer (some ⟨w.heap.size,6,none⟩)])) (ah 4)).run aA w' = .ok (.pointer (some ⟨w.heap.size,4,none⟩)) w':=fun w'=>by kernel_rfl
   simp only [show (((4:Nat):Int))=4 from rfl]
   have d:=HA2.out.cell 4 (v := ah cc) rfl
   have z:=HA2.out.free 4
   have m0:=(HT.out.aK dF.out).xg 8 _ rfl
   have m1:=(HT.out.aK dF.out).xg 9 _ rfl
   have HN:Hid (aF ((wr.setCell ⟨w.heap.size,4,none⟩ (ah (dZ 0 64 cc))).drew) w.heap.size (bK.part ⟨b,ww,m,r,cc,l,s⟩ 5) 23):=(HA2.out.set 4 (ah (dZ 0 64 cc))).drew
   have jI:Hid (aF ((wr.setCell ⟨w.heap.size,4,none⟩ (ah (dZ 0 64 cc))).drew) (w.heap.size+1) [ah 0,ah 0,ah 0,ah 0,ah 0,ah 0,ah 0] 23):=(HB2.out.uh (a:=⟨w.heap.size,4,none⟩) (by simp) _).drew
   have jQ:Hid (aj aB w ((wr.setCell ⟨w.heap.size,4,none⟩ (ah (dZ 0 64 cc))).drew)):=(dF.out.iP (aje _) _ _).drew
   go_wp2_with fail
   refine wp_region_still_tail 15 (by kernel_rfl) (by kernel_rfl) ?_
   change wpStill _ _ (ajr _) _ _ _
   simp only [List.take_succ_cons,ajs,ajt,ajn]
   repeat still_step
   refine wpStill_nil ?_
   change wpList _ _ _ _ _ wr.drew
   go_wp2_with fail
   all_goals first
    | (have hv:dZ 0 64 cc=cc:=by unfold dZ;omega
       rw [hv] at HN jI jQ
       go_roundg (gk - 1)
       case measure=>omega
       case rel=>exact ⟨5,by omega,rfl,HN,jI,jQ⟩)
    | (have hv:dZ 0 64 cc=0:=by unfold dZ;omega
       rw [hv] at HN jI jQ
       go_roundg (gk - 1)
       case measure=>omega
       case rel=>exact ⟨5,by omega,rfl,HN,jI,jQ⟩)
    | (have hv:dZ 0 64 cc=64:=by unfold dZ;omega
       rw [hv] at HN jI jQ
       go_roundg (gk - 1)
       case measure=>omega
       case rel=>exact ⟨5,by omega,rfl,HN,jI,jQ⟩)
  ·have hix:∀ w':World,(Instr.index 247 (.agg (#[au w.heap.size,.pointer (some ⟨w.heap.size,1,none⟩),.pointer (some ⟨w.heap.size,2,none⟩),.pointer (some ⟨w.heap.size,3,none⟩),.pointer (some ⟨w.heap.size,4,none⟩),.pointer (some ⟨w.heap.size,5,none⟩),.pointer (some ⟨w.heap.size,6,none⟩)])) (ah 5)).run aA w' = .ok (.pointer (some ⟨w.heap.size,5,none⟩)) w':=fun w'=>by kernel_rfl
   simp only [show (((5:Nat):Int))=5 from rfl]
   have d:=HA2.out.cell 5 (v := ah l) rfl
   have z:=HA2.out.free 5
   have m0:=(HT.out.aK dF.out).xg 10 _ rfl
   have m1:=(HT.out.aK dF.out).xg 11 _ rfl
   have HN:Hid (aF ((wr.setCell ⟨w.heap.size,5,none⟩ (ah (dZ 1 256 l))).drew) w.heap.size (bK.part ⟨b,ww,m,r,cc,l,s⟩ 6) 23):=(HA2.out.set 5 (ah (dZ 1 256 l))).drew
   have jI:Hid (aF ((wr.setCell ⟨w.heap.size,5,none⟩ (ah (dZ 1 256 l))).drew) (w.heap.size+1) [ah 0,ah 0,ah 0,ah 0,ah 0,ah 0,ah 0] 23):=(HB2.out.uh (a:=⟨w.heap.size,5,none⟩) (by simp) _).drew
   have jQ:Hid (aj aB w ((wr.setCell ⟨w.heap.size,5,none⟩ (ah (dZ 1 256 l))).drew)):=(dF.out.iP (aje _) _ _).drew
   go_wp2_with fail
   refine wp_region_still_tail 15 (by kernel_rfl) (by kernel_rfl) ?_
   change wpStill _ _ (ajr _) _ _ _
   simp only [List.take_succ_cons,ajs,ajt,ajn]
   repeat still_step
   refine wpStill_nil ?_
   change wpList _ _ _ _ _ wr.drew
   go_wp2_with fail
   all_goals first
    | (have hv:dZ 1 256 l=l:=by unfold dZ;omega
       rw [hv] at HN jI jQ
       go_roundg (gk - 1)
       case measure=>omega
       case rel=>exact ⟨6,by omega,rfl,HN,jI,jQ⟩)
    | (have hv:dZ 1 256 l=1:=by unfold dZ;omega
       rw [hv] at HN jI jQ
       go_roundg (gk - 1)
       case measure=>omega
       case rel=>exact ⟨6,by omega,rfl,HN,jI,jQ⟩)
    | (have hv:dZ 1 256 l=256:=by unfold dZ;omega
       rw [hv] at HN jI jQ
       go_roundg (gk - 1)
       case measure=>omega
       case rel=>exact ⟨6,by omega,rfl,HN,jI,jQ⟩)
  ·have hix:∀ w':World,(Instr.index 247 (.agg (#[au w.heap.size,.pointer (some ⟨w.heap.size,1,none⟩),.pointer (some ⟨w.heap.size,2,none⟩),.pointer (some ⟨w.heap.size,3,none⟩),.pointer (some ⟨w.heap.size,4,none⟩),.pointer (some ⟨w.heap.size,5,none⟩),.pointer (some ⟨w.heap.size,6,none⟩)])) (ah 6)).run aA w' = .ok (.pointer (some ⟨w.heap.size,6,none⟩)) w':=fun w'=>by kernel_rfl
   simp only [show (((6:Nat):Int))=6 from rfl]
   have d:=HA2.out.cell 6 (v := ah s) rfl
   have z:=HA2.out.free 6
   have m0:=(HT.out.aK dF.out).xg 12 _ rfl
   have m1:=(HT.out.aK dF.out).xg 13 _ rfl
   have HN:Hid (aF ((wr.setCell ⟨w.heap.size,6,none⟩ (ah (dZ 1 4096 s))).drew) w.heap.size (bK.part ⟨b,ww,m,r,cc,l,s⟩ 7) 23):=(HA2.out.set 6 (ah (dZ 1 4096 s))).drew
   have jI:Hid (aF ((wr.setCell ⟨w.heap.size,6,none⟩ (ah (dZ 1 4096 s))).drew) (w.heap.size+1) [ah 0,ah 0,ah 0,ah 0,ah 0,ah 0,ah 0] 23):=(HB2.out.uh (a:=⟨w.heap.size,6,none⟩) (by simp) _).drew
   have jQ:Hid (aj aB w ((wr.setCell ⟨w.heap.size,6,none⟩ (ah (dZ 1 4096 s))).drew)):=(dF.out.iP (aje _) _ _).drew
   go_wp2_with fail
   refine wp_region_still_tail 15 (by kernel_rfl) (by kernel_rfl) ?_
   change wpStill _ _ (ajr _) _ _ _
   simp only [List.take_succ_cons,ajs,ajt,ajn]
   repeat still_step
   refine wpStill_nil ?_
   change wpList _ _ _ _ _ wr.drew
   go_wp2_with fail
   all_goals first
    | (have hv:dZ 1 4096 s=s:=by unfold dZ;omega
       rw [hv] at HN jI jQ
       go_roundg (gk - 1)
       case measure=>omega
       case rel=>exact ⟨7,by omega,rfl,HN,jI,jQ⟩)
    | (have hv:dZ 1 4096 s=1:=by unfold dZ;omega
       rw [hv] at HN jI jQ
       go_roundg (gk - 1)
       case measure=>omega
       case rel=>exact ⟨7,by omega,rfl,HN,jI,jQ⟩)
    | (have hv:dZ 1 4096 s=4096:=by unfold dZ;omega
       rw [hv] at HN jI jQ
       go_roundg (gk - 1)
       case measure=>omega
       case rel=>exact ⟨7,by omega,rfl,HN,jI,jQ⟩)
  ·simp only [show (((7:Nat):Int))=7 from rfl]
   have a0:=HA2.out.cell 0 rfl;have a1:=HA2.out.cell 1 rfl;have a2:=HA2.out.cell 2 rfl;have a3:=HA2.out.cell 3 rfl;have a4:=HA2.out.cell 4 rfl;have a5:=HA2.out.cell 5 rfl;have a6:=HA2.out.cell 6 rfl
   have y0:=HB2.out.cell 0 rfl;have y1:=HB2.out.cell 1 rfl;have y2:=HB2.out.cell 2 rfl;have y3:=HB2.out.cell 3 rfl;have y4:=HB2.out.cell 4 rfl;have y5:=HB2.out.cell 5 rfl;have y6:=HB2.out.cell 6 rfl
   have z0:=HB2.out.free 0;have z1:=HB2.out.free 1;have z2:=HB2.out.free 2;have z3:=HB2.out.free 3;have z4:=HB2.out.free 4;have z5:=HB2.out.free 5;have z6:=HB2.out.free 6
   clear hg
   go_wp2_with fail
   obtain ⟨q,hq⟩:∃ q,q=bK.Du ⟨b,ww,m,r,cc,l,s⟩:=⟨_,rfl⟩
   rw [<- hq]
   have hB:=((((((HB2.out.set 0 (ah q.b)).set 1 (ah q.w)).set 2 (ah q.m)).set 3 (ah q.r)).set 4 (ah q.c)).set 5 (ah q.l)).set 6 (ah q.s)
   have hk:=((((((dF.out.iP (B:=w.heap.size+1) (aju _) 0 (ah q.b)).iP (B:=w.heap.size+1) (aju _) 1 (ah q.w)).iP (B:=w.heap.size+1) (aju _) 2 (ah q.m)).iP (B:=w.heap.size+1) (aju _) 3 (ah q.r)).iP (B:=w.heap.size+1) (aju _) 4 (ah q.c)).iP (B:=w.heap.size+1) (aju _) 5 (ah q.l)).iP (B:=w.heap.size+1) (aju _) 6 (ah q.s)
   have k0:=hB.cell 0 rfl;have k1:=hB.cell 1 rfl;have k2:=hB.cell 2 rfl;have k3:=hB.cell 3 rfl;have k4:=hB.cell 4 rfl;have k5:=hB.cell 5 rfl;have k6:=hB.cell 6 rfl
   exact bodyPost_ret (by simp [results,Tryz.f200,go_sem,k0,k1,k2,k3,k4,k5,k6]) rfl ⟨rfl,hk⟩
theorem zD {lo hi x:Int} (h:lo<=x/\x<=hi):dZ lo hi x=x:=by unfold dZ;omega
theorem zF {lo hi x:Int} (hl:lo<=hi) (h:dZ lo hi x=x):lo<=x/\x<=hi:=by unfold dZ at h;omega
theorem bK.abr (c:bK):c.ok=decide (c.Du=c):=by
 obtain ⟨b,ww,m,r,cc,l,s⟩:=c
 rw [Bool.eq_iff_iff,decide_eq_true_eq]
 simp only [bK.ok,bK.Du,bK.mk.injEq,Bool.and_eq_true,decide_eq_true_eq]
 constructor
 ·rintro ⟨⟨⟨⟨⟨⟨h0,h1⟩,h2⟩,h3⟩,h4⟩,h5⟩,h6⟩
  exact ⟨zD h0,zD h1,zD h2,zD h3,zD h4,zD h5,zD h6⟩
 ·rintro ⟨h0,h1,h2,h3,h4,h5,h6⟩
  exact ⟨⟨⟨⟨⟨⟨zF (by decide) h0,zF (by decide) h1⟩,zF (by decide) h2⟩,zF (by decide) h3⟩,zF (by decide) h4⟩,zF (by decide) h5⟩,zF (by decide) h6⟩
theorem Dv (c:bK) (w:World) (hT:lu w):Calls aA 154 #[.agg c.cells.toArray] w fun e w'=>e = .returned (.bool c.ok)/\aj aB w w':=by
 obtain ⟨W0,hW0⟩:∃ W',W'=w.alloc (.cells c.cells.toArray 23):=⟨_,rfl⟩
 have HA:Hid (aF W0 w.heap.size c.cells 23):=by rw [hW0];exact aF.bC w _ _
 have HK:Hid (aj aB w W0):=by rw [hW0];exact (aj.refl _ _).alloc _
 have HT:=ay (hT.aK HK.out)
 clear hT
 have HQ:Hid (∀ w':World,(binOp .eql 23 (.agg c.Du.cells.toArray) (.agg c.cells.toArray)).run aA w' = .ok (.bool c.ok) w'):=fun w'=>by
  rw [bK.abr]
  obtain ⟨b,ww,m,r,cc,l,s⟩:=c
  simp only [bK.Du,bK.cells,bK.mk.injEq]
  generalize dZ 1 4096 b=q0
  generalize dZ 16 256 ww=q1
  generalize dZ 1 8 m=q2
  generalize dZ 1 64 r=q3
  generalize dZ 0 64 cc=q4
  generalize dZ 1 256 l=q5
  generalize dZ 1 4096 s=q6
  clear HT HK HA hW0
  go_simp
  by_cases e0:q0=b
  ·by_cases e1:q1=ww
   ·by_cases e2:q2=m
    ·by_cases e3:q3=r
     ·by_cases e4:q4=cc
      ·by_cases e5:q5=l
       ·by_cases e6:q6=s
        ·simp [e0,e1,e2,e3,e4,e5,e6]
        ·simp [e0,e1,e2,e3,e4,e5,e6]
       ·simp [e0,e1,e2,e3,e4,e5]
      ·simp [e0,e1,e2,e3,e4]
     ·simp [e0,e1,e2,e3]
    ·simp [e0,e1,e2]
   ·simp [e0,e1]
  ·simp [e0]
 have HC:=ay (fun w' (h:aj aB W0 w')=>Zc c w' (HT.out.aK h))
 obtain ⟨cl,hcl⟩:∃ cl,cl=c.Du:=⟨_,rfl⟩
 rw [<- hcl] at HC HQ
 clear hcl
 obtain ⟨ok,hok⟩:∃ ok,ok=c.ok:=⟨_,rfl⟩
 rw [<- hok] at HQ ⊢
 clear hok
 have hQ:=HQ.out
 have q0:=cell_regrown (HA.out.cell 0 rfl)
 have q1:=cell_regrown (HA.out.cell 1 rfl)
 have q2:=cell_regrown (HA.out.cell 2 rfl)
 have q3:=cell_regrown (HA.out.cell 3 rfl)
 have q4:=cell_regrown (HA.out.cell 4 rfl)
 have q5:=cell_regrown (HA.out.cell 5 rfl)
 have q6:=cell_regrown (HA.out.cell 6 rfl)
 obtain ⟨b,ww,m,r,cc,l,s⟩:=c
 simp only [bK.cells] at *
 go_enter func154,ntmps154
 go_wp2_with fail
 rw [<- hW0]
 clear hW0 HQ
 refine wp_region_quiet_below (by kernel_rfl) (by kernel_rfl) ?_
 repeat (quiet_step (exact Qv (HC.out _ (Gx _ _ _))))
 refine wpQuiet_nil ?_
 intro _ hw9
 obtain ⟨⟨dq,osq⟩,hw8⟩:=hw9
 subst hw8
 have hk3:=HK.out.trans (Gx W0 dq osq)
 generalize grow (redrawn W0 dq) osq=w3 at hk3 ⊢
 go_wp2_with fail
 go_ret
 exact ⟨rfl,hk3⟩
end
section
open Go.RowKit
def IU:List Int:=[2,4,8,16]
def jk (w:World):Prop:=∀ i r,IU[i]?=some r->w.cell? ⟨2,i,none⟩=some (ah r)
theorem jk.aK {w w':World} (h:jk w) (k:aj aB w w'):jk w':=fun i r hr=>k.still (h i r hr)
theorem abt {eP : List (String × DataW Unit)} {w : World} (h : laidMet aA (("dustpan/class.sizes", Rows.laid_dustpan_class_sizes) :: eP) w) : jk w := by
 obtain ⟨ps,⟨g,t,cs,fuel,p,q,hg,ht,hvar,hd,_,_⟩,_⟩:=h
 obtain rfl : 2 = g := Option.some.inj ((show aA.globalNamed "dustpan/class.sizes" = some 2 by kernel_rfl).symm.trans hg)
 obtain rfl:206=t:=Option.some.inj ((show (aA.globals[2]?).map (·.type)=some 206 by kernel_rfl).symm.trans ht)
 obtain ⟨cs,rfl⟩:∃ l:List Value,cs=l.toArray:=⟨cs.toList,by simp⟩
 have e:cs=IU.map (Value.int .i64):=Lib.cells_of_tab (zs:=IU) (show aA.underlying 206=some (.array 4 3) by kernel_rfl) Tryz.tabU6 (by kernel_rfl) (by kernel_rfl) hd
 intro i r hr
 rw [ajp (P:=aA) hg hvar i,e]
 simp [hr]
def Gp (k:Int):Int:=if 0<=k/\k<4 then IU.getD k.toNat 0 else 0
theorem KF {k:Nat} (h:k<4):Gp (k:Int)=2^(k+1):=by
 obtain rfl|rfl|rfl|rfl:k=0\/k=1\/k=2\/k=3:=by omega
 all_goals rfl
theorem qA (k:Int) (w:World):Calls aA 198 #[ah k] w fun e w'=>e = .returned (.bool (decide (0<=k/\k<4)))/\w=w':=by
 by_cases h0:0<=k
 ·have d0:decide (0<=k)=true:=fK h0
  have HE:Hid (decide (0<=k/\k<4)=decide (k<4)):=by simp [Hid,h0]
  rw [HE.out]
  clear HE h0
  go_enter func198,ntmps198
  go_wp2_with fail
  go_ret
  exact ⟨rfl,rfl⟩
 ·have d0:decide (0<=k)=false:=gJ h0
  have HE:Hid (decide (0<=k/\k<4)=false):=by simp [Hid,h0]
  rw [HE.out]
  clear HE h0
  go_enter func198,ntmps198
  go_wp2_with fail
  go_ret
  exact ⟨rfl,rfl⟩
theorem A8 (k:Int) (w:World) (hS:jk w):Calls aA 201 #[ah k] w fun e w'=>e = .returned (ah (Gp k))/\w=w':=by
 have HI:=ay (qA k w)
 by_cases h:0<=k/\k<4
 ·obtain ⟨i,rfl⟩:∃ i:Nat,k=i:=⟨k.toNat,by omega⟩
  have hi:i<4:=by omega
  have hc:w.cell? ⟨2,i,none⟩=some (ah (Gp (i:Int))):=hS i _ (by
   unfold Gp
   rw [aZ h,ajv]
   obtain rfl|rfl|rfl|rfl:i=0\/i=1\/i=2\/i=3:=by omega
   all_goals rfl)
  rw [fK h] at HI
  generalize Gp (i:Int)=z at *
  clear h hS
  go_enter func201,ntmps201
  go_wp2_with (go_at_call 198;refine HI.out.mono ?_;rintro e w1 ⟨rfl,rfl⟩)
  go_ret
  exact ⟨rfl,rfl⟩
 ·have HE:Hid (Gp k=0):=by unfold Hid Gp;rw [aT h]
  rw [gJ h] at HI
  rw [HE.out]
  clear h HE hS
  go_enter func201,ntmps201
  go_wp2_with (go_at_call 198;refine HI.out.mono ?_;rintro e w1 ⟨rfl,rfl⟩)
  go_ret
  exact ⟨rfl,rfl⟩
def pY (k:Int):Int:=max 0 (Gp k - 1)
theorem Zd (k:Int):0<=Gp k/\Gp k<=16:=by
 unfold Gp
 split
 ·rename_i h
  obtain ⟨i,rfl⟩:∃ i:Nat,k=i:=⟨k.toNat,by omega⟩
  rw [ajv]
  obtain rfl|rfl|rfl|rfl:i=0\/i=1\/i=2\/i=3:=by omega
  all_goals decide
 ·decide
theorem E8 (k:Int) (w:World) (hS:jk w):Calls aA 158 #[ah k] w fun e w'=>e = .returned (ah (pY k))/\w=w':=by
 have HI:=ay (A8 k w hS)
 have hb:=Zd k
 unfold pY
 generalize Gp k=z at *
 clear hS
 go_enter func158,ntmps158
 go_wp2_with (go_at_call 201;refine HI.out.mono ?_;rintro e w1 ⟨rfl,rfl⟩)
 all_goals
  go_ret
  exact ⟨by first|(rw [Int.max_eq_right (by omega)];rfl)|(rw [Int.max_eq_left (by omega)];rfl),rfl⟩
end
end Go.Proofs.YtanfphjoebobaaaGreatDoor
