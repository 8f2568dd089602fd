/- Parts of the walk. No conditions. -/
import Derived.Test.YtanfphjoebobaaaGreatDoorZzec
import Derived.Laws.CopyOwn
namespace Go.Proofs.YtanfphjoebobaaaGreatDoor
open _root_.Go.Proofs.Tryz hiding prog
open _root_.Go.Proofs.Tryz renaming prog->ay
set_option maxRecDepth 4000
set_option maxHeartbeats 4000000
section
open Go.RowKit
structure Bd where
 muts:Int
 kind:Int
 count:Int
 os:List Bool
def Bd.cells (b:Bd):List Value := ah b.muts :: ah b.kind :: ah b.count::b.os.map Value.bool
structure gW (w:World) (B:Nat) (b:Bd):Prop where
 blk:aA w B b.cells 169
 len:b.os.length=8
 lo:1<=b.muts
 hi:b.muts<=8
theorem gW.keep {S w w' B b} (h:gW w B b) (k:Keep S w w') (hs:¬ S B):gW w' B b:=⟨k.blk h.blk hs,h.len,h.lo,h.hi⟩
def Bd.is (b:Bd) (m:Int):Bool:=decide (0<=m)&&decide (m<b.muts)
def Bd.isOpen (b:Bd) (m:Int):Bool:=b.os.getD m.toNat false
def Bd.pend (b:Bd) (m:Int):Bool:=b.is m&&b.isOpen m
def Bd.pq (b:Bd) (m:Int):Int:=if b.pend m then b.kind else 0
theorem Ij (B:Nat) (b:Bd) (m:Int) (w:World) (hb:gW w B b) :
 Calls ay 125 #[aj B,ah m] w fun e w'=>e = .returned (.bool (b.is m))/\w=w':=by
 have hc:=hb.blk.cell 0 (v := ah b.muts) rfl
 clear hb
 go_enter func125,ntmps125
 go_wp2
 ·go_ret
  exact ⟨by simp [Bd.is, *],rfl⟩
 ·go_ret
  have:¬ (0<=m):=by omega
  exact ⟨by simp [Bd.is, *],rfl⟩
theorem uq (B:Nat) (b:Bd) (m:Int) (w:World) (hb:gW w B b) (h:b.is m=true) :
 Calls ay 125 #[aj B,ah m] w fun e w'=>e = .returned (.bool true)/\w=w':=by
 rw [<- h];exact Ij B b m w hb
theorem D9 (B:Nat) (b:Bd) (m:Int) (w:World) (hb:gW w B b) (h:b.is m=false) :
 Calls ay 125 #[aj B,ah m] w fun e w'=>e = .returned (.bool false)/\w=w':=by
 rw [<- h];exact Ij B b m w hb
theorem gW.Ea {w B b} (hb:gW w B b) {m:Int} (h:b.is m=true):w.cell? ⟨B,3+m.toNat,none⟩=some (.bool (b.isOpen m)):=by
 have hl:=hb.len;have:=hb.hi
 simp [Bd.is] at h
 refine hb.blk.cell _ ?_
 rw [Nat.add_comm]
 simp [Bd.cells,Bd.isOpen,List.getD_eq_getElem?_getD]
 rw [List.getElem?_eq_getElem (by omega)];simp
theorem GN (B:Nat) (b:Bd) (m:Int) (w:World) (hb:gW w B b) :
 Calls ay 90 #[aj B,ah m] w fun e w'=>e = .returned (.tuple #[ah (b.pq m),.bool (b.pend m)])/\w=w':=by
 cases h:b.is m with
 | false =>
   have hp:b.pend m=false:=by simp [Bd.pend,h]
   have HP:=au hp;clear hp
   go_enter func90,ntmps90
   go_wp2_with (go_at_call 125;refine (D9 B b m _ hb h).mono ?_;rintro e w' ⟨rfl,rfl⟩)
   go_ret2
   simp [HP.out,Bd.pq]
 | true =>
   have hco:=hb.Ea h
   have hc1:=hb.blk.cell 1 (v := ah b.kind) rfl
   have hm1:0<=m:=by simp [Bd.is] at h;exact h.1
   have hm2:m<8:=by have:=hb.hi;simp [Bd.is] at h;omega
   have hp:b.pend m=b.isOpen m:=by simp [Bd.pend,h]
   have HP:=au hp;clear hp
   cases ho:b.isOpen m with
   | false =>
     rw [ho] at hco
     go_enter func90,ntmps90
     go_wp2_with (go_at_call 125;refine (uq B b m _ hb h).mono ?_;rintro e w' ⟨rfl,rfl⟩)
     go_ret2
     simp [HP.out,ho,Bd.pq]
   | true =>
     rw [ho] at hco
     go_enter func90,ntmps90
     go_wp2_with (go_at_call 125;refine (uq B b m _ hb h).mono ?_;rintro e w' ⟨rfl,rfl⟩)
     go_ret2
     simp [HP.out,ho,Bd.pq]
theorem ET (B:Nat) (b:Bd) (m:Int) (w:World) (hb:gW w B b) :
 Calls ay 167 #[aj B,ah m] w fun e w'=>e = .returned (.bool (b.is m && !b.isOpen m))/\w=w':=by
 cases h:b.is m with
 | false =>
   go_enter func167,ntmps167
   go_wp2_with (go_at_call 125;refine (D9 B b m _ hb h).mono ?_;rintro e w' ⟨rfl,rfl⟩)
   go_ret
   exact ⟨rfl,rfl⟩
 | true =>
   have hco:=hb.Ea h
   have hm1:0<=m:=by simp [Bd.is] at h;exact h.1
   have hm2:m<8:=by have:=hb.hi;simp [Bd.is] at h;omega
   go_enter func167,ntmps167
   go_wp2_with (go_at_call 125;refine (uq B b m _ hb h).mono ?_;rintro e w' ⟨rfl,rfl⟩)
   go_ret
   exact ⟨rfl,rfl⟩
def nZ:List Bool->Int->Int
 | [],_ => -1
 | x::l,i=>if x then i else nZ l (i+1)
def oO (l:List Bool):Bool:=l.any id
theorem EU (l:List Bool) (i:Int) (hi:0<=i):decide (0<=nZ l i)=oO l:=by
 induction l generalizing i with
 | nil=>simp [nZ,oO]
 | cons x l ih =>
   cases x
   ·simpa [nZ,oO] using ih (i+1) (by omega)
   ·simp [nZ,oO,hi]
theorem Dl (x:Bool) (w:World) :
 Calls ay 207 #[.bool x] w fun e w'=>e = .returned (.bool x)/\w=w':=by
 go_enter func207,ntmps207
 go_wp2
 go_ret
 exact ⟨rfl,rfl⟩
theorem OJ (B off:Nat) (l:List Bool) (w:World) (hc:∀ i,(h:i<l.length)->w.cell? ⟨B,off+i,none⟩=some (.bool l[i])) (hl:l.length<=1000) :
 Calls ay 240 #[.slice (some ⟨B,off,none⟩) l.length l.length,.func (.func 207) #[] #[]] w fun e w'=>e = .returned (ah (nZ l 0))/\w=w':=by
 go_enter func240,ntmps240
 go_wp2
 go_outline
 go_loop [8] (fun i=>∃ k:Nat,k<=l.length/\i = ah k/\nZ l 0=nZ (l.drop k) k) (fun i=>l.length - (intOf i).toNat)
 case atStart=>exact ⟨0,Nat.zero_le _,rfl,rfl⟩
 case round =>
  obtain ⟨k,hk,rfl,hr⟩:=hrel
  have HR:=au hr;clear hr
  by_cases hlt:k<l.length
  ·have hk1:=hc k hlt
   have e1:l.drop k=l[k]::l.drop (k+1):=by simp
   cases hx:l[k] with
   | true =>
     rw [hx] at hk1
     rw [hx] at e1
     have HE:=au e1;clear e1 hx hc
     go_wp2_with (go_at_call 207;refine (Dl _ _).mono ?_;rintro e w' ⟨rfl,rfl⟩)
     go_ret
     refine ⟨?_,rfl⟩
     rw [HR.out,HE.out];rfl
   | false =>
     rw [hx] at hk1
     rw [hx] at e1
     have HE:=au e1;clear e1 hx hc
     go_wp2_with (go_at_call 207;refine (Dl _ _).mono ?_;rintro e w' ⟨rfl,rfl⟩)
     go_round
     case rel=>exact ⟨k+1,by omega,by go_num,by rw [HR.out,HE.out];rfl⟩
     case measure=>simp [intOf];omega
  ·have:l.drop k=[]:=List.drop_of_length_le (by omega)
   have HE:=au this;clear this hc
   go_wp2
   go_ret
   refine ⟨?_,rfl⟩
   rw [HR.out,HE.out];rfl
theorem gW.Uk {w B b} (hb:gW w B b) (i:Nat) (h:i<b.os.length):w.cell? ⟨B,3+i,none⟩=some (.bool b.os[i]):=by
 refine hb.blk.cell _ ?_
 rw [Nat.add_comm]
 simp [Bd.cells,h]
theorem KL (B off:Nat) (l:List Bool) (w:World) (hc:∀ i,(h:i<l.length)->w.cell? ⟨B,off+i,none⟩=some (.bool l[i])) (hl:l.length<=1000) :
 Calls ay 206 #[.slice (some ⟨B,off,none⟩) l.length l.length,.func (.func 207) #[] #[]] w fun e w'=>e = .returned (.bool (oO l))/\w=w':=by
 have hge:=EU l 0 (by omega)
 have HC:=au hc;have HG:=au hge;clear hc hge
 go_enter func206,ntmps206
 go_wp2_with (go_at_call 240;refine (OJ _ _ _ _ HC.out hl).mono ?_;rintro e w' ⟨rfl,rfl⟩)
 go_ret
 exact ⟨by rw [<- HG.out];rfl,rfl⟩
def Bd.all (b:Bd):Bool := !oO b.os
theorem EW (B:Nat) (b:Bd) (w:World) (hb:gW w B b) :
 Calls ay 165 #[aj B] w fun e w'=>e = .returned (.bool b.all)/\w=w':=by
 have hc:=hb.Uk
 have hl:=hb.len
 have HC:=au hc;have HL:=au hl;clear hc hl hb
 have key:∀ w0,w0=w->Calls ay 206 #[.slice (some ⟨B,3,none⟩) 8 8,.func (.func 207) #[] #[]] w0 fun e w'=>e = .returned (.bool (oO b.os))/\w0=w':=by
  intro w0 h0
  subst h0
  have:=KL B 3 b.os w0 HC.out (by rw [HL.out];omega)
  rw [HL.out] at this;exact this
 have KEY:=au key;clear key
 go_enter func165,ntmps165
 go_wp2_with (go_at_call 206;refine (KEY.out _ rfl).mono ?_;rintro e w' ⟨rfl,rfl⟩)
 go_ret
 exact ⟨rfl,rfl⟩
def Bd.close (b:Bd) (m:Int):Bd:={ b with os:=b.os.set m.toNat false }
def Bd.Eb (b:Bd) (m:Int):Int:=if b.is m then (if b.isOpen m then 0 else 11) else 4
def Bd.iT (b:Bd) (m:Int):Bd:=if b.pend m then b.close m else b
theorem gW.close {w B b} (hb:gW w B b) (m:Int):gW (w.setCell ⟨B,3+m.toNat,none⟩ (.bool false)) B (b.close m):=by
 refine ⟨?_,by simp [Bd.close,hb.len],hb.lo,hb.hi⟩
 have:=hb.blk.set (3+m.toNat) (.bool false)
 rw [Nat.add_comm] at this ⊢
 simpa [Bd.cells,Bd.close,List.map_set] using this
theorem JU (B:Nat) (b:Bd) (m:Int) (w:World) (hb:gW w B b) :
 Calls ay 129 #[aj B,ah m] w fun e w'=>e = .returned (ah (b.Eb m))/\gW w' B (b.iT m)/\Keep (only B) w w':=by
 cases h:b.is m with
 | false =>
   have HE:Hid (b.Eb m=4/\b.iT m=b):=by simp [Hid,Bd.Eb,Bd.iT,Bd.pend,h]
   go_enter func129,ntmps129
   go_wp2_with (go_at_call 125;refine (D9 B b m _ hb h).mono ?_;rintro e w' ⟨rfl,rfl⟩)
   go_ret
   rw [HE.out.1,HE.out.2]
   exact ⟨rfl,hb,Keep.refl _ _⟩
 | true =>
   have hco:=hb.Ea h
   have hm1:0<=m:=by simp [Bd.is] at h;exact h.1
   have hm2:m<8:=by have:=hb.hi;simp [Bd.is] at h;omega
   cases ho:b.isOpen m with
   | false =>
     have HE:Hid (b.Eb m=11/\b.iT m=b):=by simp [Hid,Bd.Eb,Bd.iT,Bd.pend,h,ho]
     rw [ho] at hco
     go_enter func129,ntmps129
     go_wp2_with (go_at_call 125;refine (uq B b m _ hb h).mono ?_;rintro e w' ⟨rfl,rfl⟩)
     go_ret
     rw [HE.out.1,HE.out.2]
     exact ⟨rfl,hb,Keep.refl _ _⟩
   | true =>
     have HE:Hid (b.Eb m=0/\b.iT m=b.close m):=by simp [Hid,Bd.Eb,Bd.iT,Bd.pend,h,ho]
     have hfz:=hb.blk.free (3+m.toNat)
     have HB:=au (hb.close m)
     rw [ho] at hco
     go_enter func129,ntmps129
     go_wp2_with (go_at_call 125;refine (uq B b m _ hb h).mono ?_;rintro e w' ⟨rfl,rfl⟩)
     go_ret
     rw [HE.out.1,HE.out.2]
     exact ⟨rfl,HB.out,(Keep.refl (only B) _).put _ _⟩
def Bd.new (m:Int):Bd:=⟨m,0,0,List.replicate 8 false⟩
theorem QO (m:Int) (w:World) (h:1<=m) (h8:m<=8) :
 Calls ay 68 #[ah m] w fun e w'=>e = .returned (.tuple #[aj w.heap.size,ah 0])/\gW w' w.heap.size (Bd.new m)/\Keep none_ w w':=by
 have HN:∀ w:World,Hid (gW (w.alloc (.cells (Bd.new m).cells.toArray 169)) w.heap.size (Bd.new m)):=fun w=>⟨aA.new w (Bd.new m).cells 169,rfl,h,h8⟩
 go_enter func68,ntmps68
 go_wp2
 go_ret2
 exact ⟨rfl,(HN w).out,(Keep.refl _ _).alloc _⟩
def qg:Nat->List Bool->List Bool
 | 0,l=>l
 | k+1,l=>(qg k l).set k true
def Bd.asked (b:Bd) (kind:Int) (k:Nat):Bd:=⟨b.muts,kind,b.count+1,qg k b.os⟩
def Bd.KN (b:Bd):Int:=if b.all then 0 else 11
def Bd.oU (b:Bd) (kind:Int):Bd:=if b.all then b.asked kind b.muts.toNat else b
theorem gW.asked0 {w B b} (hb:gW w B b) (kind:Int):gW ((w.setCell ⟨B,1,none⟩ (ah kind)).setCell ⟨B,2,none⟩ (ah (b.count+1))) B (b.asked kind 0) :=
 ⟨by simpa [Bd.cells,Bd.asked,qg] using (hb.blk.set 1 (ah kind)).set 2 (ah (b.count+1)),hb.len,hb.lo,hb.hi⟩
theorem gW.aaK {w B b kind k} (hb:gW w B (Bd.asked b kind k)):gW (w.setCell ⟨B,3+k,none⟩ (.bool true)) B (b.asked kind (k+1)):=by
 refine ⟨?_,by have:=hb.len;simp [Bd.asked,qg] at *;exact this,hb.lo,hb.hi⟩
 have:=hb.blk.set (3+k) (.bool true)
 rw [Nat.add_comm] at this ⊢
 simpa [Bd.cells,Bd.asked,qg,List.map_set] using this
theorem QS (B:Nat) (b:Bd) (kind:Int) (w:World) (hb:gW w B b) (hk0:0<=b.count) (hk1:b.count<=1000000000) :
 Calls ay 120 #[aj B,ah kind] w fun e w'=>e = .returned (ah b.KN)/\gW w' B (b.oU kind)/\Keep (only B) w w':=by
 cases h:b.all with
 | false =>
   have HE:Hid (b.KN=11/\b.oU kind=b):=by simp [Hid,Bd.KN,Bd.oU,h]
   have key:Calls ay 165 #[aj B] w fun e w'=>e = .returned (.bool false)/\w=w':=by
    rw [<- h];exact EW B b w hb
   have KEY:=au key;clear key
   go_enter func120,ntmps120
   go_wp2_with (go_at_call 165;refine KEY.out.mono ?_;rintro e w' ⟨rfl,rfl⟩)
   go_ret
   rw [HE.out.1,HE.out.2]
   exact ⟨rfl,hb,Keep.refl _ _⟩
 | true =>
   have HE:Hid (b.KN=0/\b.oU kind=b.asked kind b.muts.toNat):=by simp [Hid,Bd.KN,Bd.oU,h]
   have key:Calls ay 165 #[aj B] w fun e w'=>e = .returned (.bool true)/\w=w':=by
    rw [<- h];exact EW B b w hb
   have KEY:=au key;clear key
   have hc0:=hb.blk.cell 0 (v := ah b.muts) rfl
   have hc1:=hb.blk.cell 1 (v := ah b.kind) rfl
   have hc2:=hb.blk.cell 2 (v := ah b.count) rfl
   have hf1:=hb.blk.free 1
   have hf2:=hb.blk.free 2
   have hmu:=hb.hi
   have hml:=hb.lo
   have H0:=au (hb.asked0 kind)
   go_enter func120,ntmps120
   go_wp2_with (go_at_call 165;refine KEY.out.mono ?_;rintro e w' ⟨rfl,rfl⟩)
   go_loopw [24] (fun i wr=>∃ k:Nat,k<=b.muts.toNat/\i = ah k/\gW wr B (b.asked kind k)/\Keep (only B) w wr) (fun i _=>b.muts.toNat - (intOf i).toNat)
   case atStart=>exact ⟨0,Nat.zero_le _,rfl,H0.out,((Keep.refl (only B) _).put _ _).put _ _⟩
   case round =>
    obtain ⟨k,hk,rfl,hbk,hkeep⟩:=hrel
    by_cases hlt:(k:Int)<b.muts
    ·have hfz:=hbk.blk.free (3+k)
     have hcl:wr.cell? ⟨B,3+k,none⟩=some (.bool (b.asked kind k).os[k]!):=by
      have hl:=hbk.len
      rw [hbk.Uk k (by omega)]
      rw [getElem!_pos _ _ (by omega)]
     have HB:=au hbk.aaK
     go_wp2
     go_roundw
     case rel=>exact ⟨k+1,by omega,by go_num,HB.out,hkeep.put _ _⟩
     case measure=>simp [intOf];omega
    ·have e1:k=b.muts.toNat:=by omega
     have HK:=au e1;clear e1
     go_wp2
     go_ret
     rw [HE.out.1,HE.out.2,<- HK.out]
     exact ⟨rfl,hbk,hkeep⟩
theorem uO {B:Nat} {b:Bd} {m:Int} {w:World} {p:Bool} {k:Int} (hb:gW w B b) (h1:b.pend m=p) (h2:b.pq m=k) :
 Calls ay 90 #[aj B,ah m] w fun e w'=>e = .returned (.tuple #[ah k,.bool p])/\w=w':=by
 rw [<- h1,<- h2];exact GN B b m w hb
def Ow:Type:=Nat->Nat
def In (o:Ow) (I:List Nat):Nat->Prop:=fun b=>o b∈I
def gX (o:Ow) (w:World):Prop:=∀ b,w.heap.size<=b->o b=0
def aQ (w:World) (o o':Ow):Prop:=∀ b,b<w.heap.size->o' b=o b
theorem aQ.refl (w:World) (o:Ow):aQ w o o:=fun _ _=>rfl
theorem aQ.trans {w w':World} {o o' o'':Ow} (h:aQ w o o') (hs:w.heap.size<=w'.heap.size) (h':aQ w' o' o''):aQ w o o'':=fun b hb=>(h' b (Nat.lt_of_lt_of_le hb hs)).trans (h b hb)
theorem gX.later {o:Ow} {w w':World} (h:gX o w) (hs:w.heap.size<=w'.heap.size):gX o w':=fun b hb=>h b (Nat.le_trans hs hb)
theorem gX.keep {S:Nat->Prop} {o:Ow} {w w':World} (h:gX o w) (k:Keep S w w'):gX o w':=h.later k.size
theorem aaL {o:Ow} {I:List Nat} {b i:Nat} (h:o b=i) (hi:i∉I):¬ In o I b:=fun e=>by unfold In at e;rw [h] at e;exact hi e
theorem bI {o:Ow} {I:List Nat} {b i:Nat} (h:o b=i) (hi:I.contains i=false):¬ In o I b:=aaL h (by simpa using hi)
theorem Keep.aS {o:Ow} {I:List Nat} {w w':World} (k:Keep none_ w w'):Keep (In o I) w w':=k.mono (fun _ _ f=>f.elim)
theorem Keep.qK {o:Ow} {I:List Nat} {w w':World} {B i:Nat} (k:Keep (only B) w w') (h:o B=i) (hi:I.contains i=true):Keep (In o I) w w':=k.mono (fun b _ e=>by unfold only at e;subst e;unfold In;rw [h];simpa using hi)
theorem Keep.jP {o:Ow} {I J:List Nat} {w w':World} (k:Keep (In o I) w w') (h:I.all (fun i=>J.contains i)=true):Keep (In o J) w w':=k.mono (fun b _ e=>by
 unfold In at *
 have:=List.all_eq_true.1 h _ e
 simpa using this)
theorem Keep.rO {o o':Ow} {I:List Nat} {w w':World} (k:Keep (In o I) w w') (h:aQ w o o'):Keep (In o' I) w w':=k.mono (fun b hb e=>by unfold In at *;rw [h b hb];exact e)
theorem Keep.EX {o o':Ow} {I:List Nat} {a b c:World} (h:Keep (In o I) a b) (k:Keep (In o' I) b c) (e:aQ a o o'):Keep (In o I) a c:=h.trans' k (fun i hi hin=>by unfold In at *;rw [<- e i hi];exact hin)
def Ow.put (o:Ow) (g i:Nat):Ow:=fun b=>if b=g then i else o b
theorem Ow.jU {o:Ow} {w:World} {g i:Nat} (h:w.heap.size<=g\/o g=i):aQ w o (o.put g i):=fun b hb=>by
 unfold Ow.put
 split
 ·rename_i e;subst e
  rcases h with h|h
  ·omega
  ·exact h.symm
 ·rfl
theorem Ow.nJ {o:Ow} {w w':World} {g i:Nat} (h:gX o w) (hs:w.heap.size<=w'.heap.size) (hg:g<w'.heap.size):gX (o.put g i) w':=fun b hb=>by
 unfold Ow.put
 rw [if_neg (by omega)]
 exact h b (by omega)
theorem Ow.lM (o:Ow) (g i:Nat):(o.put g i) g=i:=by unfold Ow.put;rw [if_pos rfl]
def bC (o:Ow) (w:World) (T:TypeId) (v:Value) (xs:List Value):Prop :=
 ∃ a c,v = .slice a xs.length c/\xs.length<=c/\xs.length<=4000000000000/\(0<xs.length->∃ b off cs,a=some ⟨b,off,none⟩/\o b=0/\aA w b cs T/\∀ j,j<xs.length->cs[off+j]?=xs[j]?)
section
variable {o o':Ow} {w w':World} {T:TypeId} {v:Value} {xs:List Value}
theorem bC.nil (o:Ow) (w:World) (T:TypeId):bC o w T (.slice none 0 0) []:=⟨none,0,rfl,Nat.le_refl _,by simp,fun h=>absurd h (Nat.lt_irrefl 0)⟩
theorem bC.keep {S:Nat->Prop} (h:bC o w T v xs) (k:Keep S w w') (hs:∀ b,o b=0->¬ S b):bC o w' T v xs:=by
 obtain ⟨a,c,rfl,hl,hm,hc⟩:=h
 refine ⟨a,c,rfl,hl,hm,fun h0=>?_⟩
 obtain ⟨b,off,cs,e,h0,hb,hj⟩:=hc h0
 exact ⟨b,off,cs,e,h0,k.blk hb (hs b h0),hj⟩
theorem bC.aH {I:List Nat} (h:bC o w T v xs) (k:Keep (In o I) w w') (hI:I.contains 0=false):bC o w' T v xs:=h.keep k (fun _ hb=>bI hb hI)
theorem bC.still (h:bC o w T v xs) (k:Keep none_ w w'):bC o w' T v xs:=h.keep k (fun _ _ f=>f)
theorem bC.ext (h:bC o w T v xs) (e:aQ w o o'):bC o' w T v xs:=by
 obtain ⟨a,c,rfl,hl,hm,hc⟩:=h
 refine ⟨a,c,rfl,hl,hm,fun h0=>?_⟩
 obtain ⟨b,off,cs,e1,h0,hb,hj⟩:=hc h0
 exact ⟨b,off,cs,e1,(e b hb.lt).trans h0,hb,hj⟩
theorem bC.toV (h:bC o w T v xs):KF w T v xs:=by
 obtain ⟨a,c,rfl,hl,hm,hc⟩:=h
 refine ⟨a,c,rfl,hl,hm,fun h0=>?_⟩
 obtain ⟨b,off,cs,e1,_,hb,hj⟩:=hc h0
 exact ⟨b,off,cs,e1,hb,hj⟩
theorem bC.tV {base n:Nat} (h:w.ownsRow base T 1 v n xs) (hm:n<=4000000000000) (hf:∀ b,base<=b->o b=0):bC o w T v xs:=by
 obtain ⟨hl,hf2⟩:=h
 rcases hf2 with ⟨rfl,rfl⟩|⟨g,cap,cur,rfl,hg0,hg,hn,_,hs,hc⟩
 ·have:xs=[]:=List.eq_nil_of_length_eq_zero (by simpa using hl)
  subst this
  exact bC.nil _ _ _
 ·have hnl:n=xs.length:=by simpa using hl.symm
  subst hnl
  refine ⟨_,cap,rfl,hn,hm,fun _=>⟨g,0,cur.toList,rfl,hf g hg0,by unfold aA;simpa using hg,fun j hj=>?_⟩⟩
  rw [<- hc]
  simp [hj]
theorem bC.acA {B:Nat} (h:aA w B xs T) (hB:o B=0) {n:Nat} (hn:n=xs.length) (hm:n<=4000000000000):bC o w T (.slice (some ⟨B,0,none⟩) n n) xs:=by
 subst hn
 exact ⟨_,_,rfl,Nat.le_refl _,hm,fun _=>⟨B,0,xs,rfl,hB,h,fun j _=>by rw [Nat.zero_add]⟩⟩
theorem bC.cut {a:Option Addr} {n c:Nat} (h:bC o w T (.slice a n c) xs) (k:Nat) (hk:k<=n):bC o w T (.slice (oP a c k) (n - k) (c - k)) (xs.drop k):=by
 obtain ⟨a',c',e,hl,hm,hc⟩:=h
 simp at e
 obtain ⟨rfl,rfl,rfl⟩:=e
 refine ⟨oP a c k,c - k,by simp,by simp;omega,by simp;omega,fun h0=>?_⟩
 have h0':k<xs.length:=by simp at h0;omega
 obtain ⟨b,off,cs,rfl,h0,hb,hj⟩:=hc (by omega)
 refine ⟨b,off+k,cs,?_,h0,hb,fun j hjl=>?_⟩
 ·unfold oP
  rw [if_neg (by omega)]
  cases k with
  | zero=>simp [Addr.add]
  | succ k=>simp [Addr.add]
 ·simp only [List.length_drop] at hjl
  rw [List.getElem?_drop,Nat.add_assoc,hj (k+j) (by omega)]
theorem bC.form (h:bC o w T v xs):∃ a c,v = .slice a xs.length c/\xs.length<=c/\xs.length<=4000000000000/\∀ j u,xs[j]?=some u->∃ b off,a=some ⟨b,off,none⟩/\w.cell? ⟨b,off+j,none⟩=some u:=by
 obtain ⟨a,c,rfl,hl,hm,hc⟩:=h
 refine ⟨a,c,rfl,hl,hm,fun j u hj=>?_⟩
 have hlt:=(List.getElem?_eq_some_iff.1 hj).1
 obtain ⟨b,off,cs,e1,_,hb,hj2⟩:=hc (by omega)
 exact ⟨b,off,e1,hb.cell _ ((hj2 j hlt).trans hj)⟩
end
theorem aA.aH {o:Ow} {I:List Nat} {w w':World} {B i:Nat} {cs:List Value} {T:TypeId} (h:aA w B cs T) (k:Keep (In o I) w w') (hB:o B=i) (hI:I.contains i=false):aA w' B cs T:=k.blk h (bI hB hI)
theorem bC.Ko {o:Ow} {w w':World} {T:TypeId} {v:Value} {xs:List Value} {B:Nat} (h:bC o w T v xs) (k:Keep (only B) w w') (ho:o B≠0):bC o w' T v xs:=h.keep k (fun b hb e=>by unfold only at e;subst e;exact ho hb)
structure Qu where
 rows:List (List Int)
 opn:Nat
structure fP (o:Ow) (w:World) (B:Nat) (q:Qu):Prop where
 own:o B≠0
 len:q.rows.length=4
 blk:∃ vs:List Value,vs.length=4/\aA w B (vs++[ah q.opn]) 172/\∀ (i:Nat) (v:Value) (zs:List Int),vs[i]?=some v->q.rows[i]?=some zs->bC o w 3 v (zs.map (Value.int .i64))
def cls (k:Int):Bool:=decide (0<=k)&&decide (k<4)
theorem ZJ (k:Int) (w:World):Calls ay 198 #[ah k] w fun e w'=>e = .returned (.bool (cls k))/\w=w':=by
 go_enter func198,ntmps198
 go_wp2
 ·go_ret
  exact ⟨by simp [cls, *],rfl⟩
 ·go_ret
  have:¬ 0<=k:=by omega
  exact ⟨by simp [cls, *],rfl⟩
theorem yK {k:Int} {w:World} {p:Bool} (h:cls k=p):Calls ay 198 #[ah k] w fun e w'=>e = .returned (.bool p)/\w=w':=by
 rw [<- h];exact ZJ k w
def Qu.row (q:Qu) (k:Int):List Int:=q.rows.getD k.toNat []
def Qu.len (q:Qu) (k:Int):Int:=if cls k then (q.row k).length else 0
theorem fP.at_ {o:Ow} {w B q} (h:fP o w B q) {k:Int} (hk:cls k=true):∃ a n c,w.cell? ⟨B,k.toNat,none⟩=some (.slice a n c)/\bC o w 3 (.slice a n c) ((q.row k).map (Value.int .i64))/\n=(q.row k).length:=by
 obtain ⟨ho,hl,vs,hv,hb,hr⟩:=h
 have hk':k.toNat<4:=by simp [cls] at hk;omega
 have h1:vs[k.toNat]?=some (vs[k.toNat]'(by omega)):=List.getElem?_eq_getElem _
 have h2:q.rows[k.toNat]?=some (q.row k):=by
  rw [Qu.row,List.getD_eq_getElem?_getD,List.getElem?_eq_getElem (by omega)];rfl
 have hrow:=hr _ _ _ h1 h2
 obtain ⟨a,c,e,h3⟩:=id hrow
 refine ⟨a,_,c,?_,e▸hrow,by simp⟩
 rw [<- e]
 refine hb.cell _ ?_
 rw [List.getElem?_append_left (by omega)];exact h1
theorem Xg {o:Ow} (B:Nat) (q:Qu) (k:Int) (w:World) (h:fP o w B q):Calls ay 304 #[aj B,ah k] w fun e w'=>e = .returned (ah (q.len k))/\w=w':=by
 cases hk:cls k with
 | false =>
   have HE:Hid (q.len k=0):=by simp [Hid,Qu.len,hk]
   go_enter func304,ntmps304
   go_wp2_with (go_at_call 198;refine (yK hk).mono ?_;rintro e w' ⟨rfl,rfl⟩)
   go_ret
   rw [HE.out]
   exact ⟨rfl,rfl⟩
 | true =>
   obtain ⟨a,n,c,hc,hr,hn⟩:=h.at_ hk
   have HE:Hid (q.len k=n):=by simp [Hid,Qu.len,hk,hn]
   have h0:0<=k:=by simp [cls] at hk;omega
   have h4:k<4:=by simp [cls] at hk;omega
   clear hr hn
   go_enter func304,ntmps304
   go_wp2_with (go_at_call 198;refine (yK hk).mono ?_;rintro e w' ⟨rfl,rfl⟩)
   go_ret
   rw [HE.out]
   exact ⟨rfl,rfl⟩
theorem fP.open_ {o:Ow} {w B q} (h:fP o w B q):w.cell? ⟨B,4,none⟩=some (ah q.opn):=by
 obtain ⟨ho,hl,vs,hv,hb,hr⟩:=h
 refine hb.cell _ ?_
 rw [List.getElem?_append_right (by omega),hv];rfl
theorem fP.free {o:Ow} {w B q} (h:fP o w B q) (i:Nat):w.frozen? ⟨B,i,none⟩=false:=by
 obtain ⟨ho,hl,vs,hv,hb,hr⟩:=h
 exact hb.free i
theorem Ul {o:Ow} (B:Nat) (q:Qu) (w:World) (h:fP o w B q):Calls ay 303 #[aj B] w fun e w'=>e = .returned (ah q.opn)/\w=w':=by
 have hc:=h.open_
 clear h
 go_enter func303,ntmps303
 go_wp2
 go_ret
 exact ⟨rfl,rfl⟩
def Qu.Az (q:Qu) (n:Nat):Qu:={ q with opn:=n }
theorem fP.Az {o:Ow} {w B q} (h:fP o w B q) (n:Nat):fP o (w.setCell ⟨B,4,none⟩ (ah n)) B (q.Az n):=by
 obtain ⟨ho,hl,vs,hv,hb,hr⟩:=h
 refine ⟨ho,hl,vs,hv,?_,fun i v zs h1 h2=>(hr i v zs h1 h2).Ko ((Keep.refl (only B) _).put _ _) ho⟩
 have:=hb.set 4 (ah n)
 rw [List.set_append_right _ _ (by omega),hv] at this
 exact this
def Qu.EY (q:Qu):Int:=if q.opn=0 then 11 else 0
def Qu.qh (q:Qu):Qu:=q.Az (q.opn - 1)
theorem Um {o:Ow} (B:Nat) (q:Qu) (w:World) (h:fP o w B q) (hm:q.opn<=1000000000):Calls ay 279 #[aj B] w fun e w'=>e = .returned (ah q.EY)/\fP o w' B q.qh/\Keep (only B) w w':=by
 have hc:=h.open_
 have hf:=h.free 4
 by_cases h0:q.opn=0
 ·have HE:Hid (q.EY=11/\q.qh=q):=by
   refine ⟨by simp [Qu.EY,h0],?_⟩
   obtain ⟨r,o⟩:=q
   simp at h0;subst h0;rfl
  rw [h0] at hc
  clear h0
  go_enter func279,ntmps279
  go_wp2
  go_ret
  rw [HE.out.1,HE.out.2]
  exact ⟨rfl,h,Keep.refl _ _⟩
 ·have HE:Hid (q.EY=0):=by simp [Hid,Qu.EY,h0]
  have hne:((q.opn:Int)==0)=false:=by simp;omega
  have h1:(1:Int)<=q.opn:=by omega
  have hs:=h.Az (q.opn - 1)
  have e:((q.opn - 1:Nat):Int)=(q.opn:Int) - 1:=by omega
  rw [e] at hs
  have HS:=au hs
  clear hs e h0
  go_enter func279,ntmps279
  go_wp2
  go_ret
  rw [HE.out]
  exact ⟨rfl,HS.out,(Keep.refl (only B) _).put _ _⟩
def Qu.put (q:Qu) (k b:Int):Qu:={ q with rows:=q.rows.set k.toNat (q.row k++[b]) }
def Kq (k b:Int):Bool:=cls k&&decide (0<=b)
theorem fP.setRow {o:Ow} {w B q} (h:fP o w B q) {k:Int} (hk:cls k=true) {v:Value} {zs:List Int} (hv:bC o w 3 v (zs.map (Value.int .i64))) :
 fP o (w.setCell ⟨B,k.toNat,none⟩ v) B { q with rows:=q.rows.set k.toNat zs }:=by
 obtain ⟨ho,hl,vs,hvl,hb,hr⟩:=h
 have hk':k.toNat<4:=by simp [cls] at hk;omega
 have hkeep:∀ u,Keep (only B) w (w.setCell ⟨B,k.toNat,none⟩ u):=fun u=>(Keep.refl (only B) _).put _ _
 refine ⟨ho,by simpa using hl,vs.set k.toNat v,by simpa using hvl,?_,fun i u zs' h1 h2=>?_⟩
 ·have:=hb.set k.toNat v
  rw [List.set_append_left _ _ (by omega)] at this
  exact this
 ·by_cases e:k.toNat=i
  ·subst e
   rw [List.getElem?_set_self (by omega)] at h1 h2
   simp at h1 h2
   subst h1 h2
   exact hv.Ko (hkeep _) ho
  ·rw [List.getElem?_set_ne e] at h1 h2
   exact (hr i u zs' h1 h2).Ko (hkeep _) ho
theorem fP.still {o:Ow} {w w' B q} (h:fP o w B q) (k:Keep none_ w w'):fP o w' B q:=by
 obtain ⟨ho,hl,vs,hv,hb,hr⟩:=h
 exact ⟨ho,hl,vs,hv,k.blk hb (fun f=>f),fun i v zs h1 h2=>(hr i v zs h1 h2).still k⟩
theorem Tryz.sizeInt:(ay.info? 3).map (·.size)=some 1:=by kernel_rfl
theorem Xh {o:Ow} (B:Nat) (q:Qu) (k b:Int) (w:World) (h:fP o w B q) (hok:Kq k b=true) (hm:(q.row k).length<=1000000000) (hf0:gX o w) :
 Calls ay 294 #[aj B,ah k,ah b] w fun e w'=>e = .returned (ah 0)/\fP o w' B (q.put k b)/\Keep (only B) w w':=by
 have hk:cls k=true:=by simp [Kq] at hok;exact hok.1
 have hb0:¬ b<0:=by simp [Kq] at hok;omega
 obtain ⟨a,n,c,hc,hr,hn⟩:=h.at_ hk
 have h0:0<=k:=by simp [cls] at hk;omega
 have h4:k<4:=by simp [cls] at hk;omega
 have hmk:=run_mk (P:=ay) Tryz.underlying32 Tryz.infoInt rfl (by decide) (n+1) (by omega) ((n:Int)+1) (by omega)
 have hlt:B<w.heap.size:=World.block_lt_of_cell? _ _ hc
 have hc1:∀ o,(w.alloc o).cell? ⟨B,k.toNat,none⟩=some (.slice a n c):=fun o=>by rw [World.cell?_alloc_lt _ _ _ hlt];exact hc
 have hn1:n<=1000000000:=by omega
 have hxs:((q.row k).map (Value.int .i64)).length=n:=by simp [hn]
 have HX:=au hxs
 have HL:=au (show (q.row k).length=n from hn.symm)
 have HR:=au hr.toV.cells
 have HN:=au hn
 have HC3:Hid (0<((q.row k).map (Value.int .i64)).length->∃ ad,a=some ad/\∀ (j:Nat) (v:Value),((q.row k).map (Value.int .i64))[j]?=some v->(w.alloc (.cells (zeros (ah 0) (n+1)).toArray 3)).cell? (ad.add j)=some v):=by
  intro h0
  rw [HX.out] at h0
  obtain ⟨b',off',rfl,hcs⟩:=HR.out.2.2.2 h0
  refine ⟨_,rfl,fun j v hj=>?_⟩
  have hcj:=hcs j v hj
  have ea:(⟨b',off',none⟩:Addr).add j=⟨b',off'+j,none⟩:=by simp only [Addr.add];split<;>simp_all
  rw [ea,World.cell?_alloc_lt _ _ _ (World.block_lt_of_cell? _ _ hcj)]
  exact hcj
 have HF0:=au hf0
 clear hr hn hok hxs hf0
 go_enter func294,ntmps294
 go_wp2_with first|(go_at_call 198;refine (yK hk).mono ?_;rintro e w' ⟨rfl,rfl⟩)|(refine wpList_copy_splice rfl (.tmp 29) (.tmp 35) 32 32 rfl 3 Tryz.underlying32 Tryz.sizeInt _ _ (n+1) (n+1) n c rfl rfl w.heap.size 0 (zeros (ah 0) (n+1)) 3 ?c1 ((q.row k).map (Value.int .i64)) ?c2 (fun h0=>⟨rfl,HC3.out h0⟩) ?c4 ?c5 w.heap.size w ?c6 ?c7 ?_)
 case c1=>exact aA.new w (zeros (ah 0) (n+1)) 3
 case c2=>rw [HX.out];simp
 case c4=>rw [HX.out,Uh];omega
 case c5=>simp;exact fun _ _=>rfl
 case c6=>exact (Below.refl _ _).alloc (Nat.le_refl _) _
 case c7=>exact Nat.le_refl _
 intro w2 hg2 hb2
 have hg3:aA w2 w.heap.size ((q.row k).map (Value.int .i64)++[ah 0]) 3:=by
  have:=hg2.out
  unfold aA
  rw [this]
  congr 3
  simp only [splice,List.take_zero,List.nil_append,Nat.zero_add]
  rw [HX.out]
  simp [zeros]
 clear hg2
 rw [HL.out]
 have hkp2:Keep none_ w w2:=Keep.PE hb2 none_
 have hkp3:=hkp2.eP (B:=w.heap.size) (Nat.le_refl _) n (ah b)
 have hg4:aA (w2.setCell ⟨w.heap.size,n,none⟩ (ah b)) w.heap.size ((q.row k++[b]).map (Value.int .i64)) 3:=by
  have:=hg3.set n (ah b)
  rw [List.set_append_right _ _ (by rw [HX.out];exact Nat.le_refl _),HX.out] at this
  simpa using this
 have hQ:=(h.still hkp3).setRow hk (bC.acA hg4 (HF0.out _ (Nat.le_refl _)) (n:=n+1) (by simp [HL.out]) (by omega))
 have HQ:=au hQ
 have e0:w2.cell? ⟨w.heap.size,n,none⟩=some (ah 0):=hg3.cell n (by rw [List.getElem?_append_right (by rw [HX.out];exact Nat.le_refl _),HX.out];simp)
 have f0:=hg3.free n
 have e1:(w2.setCell ⟨w.heap.size,n,none⟩ (ah b)).cell? ⟨B,k.toNat,none⟩=some (.slice a n c):=hkp3.still hc
 have f1:w2.frozen? ⟨B,k.toNat,none⟩=false:=by rw [hkp2.frozen hlt (fun f=>f)];exact h.free _
 have hkf:Keep (only B) w (w2.setCell ⟨w.heap.size,n,none⟩ (ah b)):=hkp3.mono (fun _ _ f=>f.elim)
 clear hg3 hg4 hQ hb2 hc1 hmk hkp2 hkp3
 go_wp2_with fail
 go_ret
 refine ⟨rfl,HQ.out,hkf.put _ _⟩
theorem fP.drew {o:Ow} {w B q} (h:fP o w B q):fP o w.drew B q:=⟨h.own,h.len,h.blk⟩
def Qu.take (q:Qu) (k:Int):Qu:={ rows:=q.rows.set k.toNat ((q.row k).drop 1),opn:=q.opn+1 }
theorem Dn {o:Ow} (B:Nat) (q:Qu) (k:Int) (w:World) (hq:fP o w B q) (h:cls k=true) (h0:q.row k=[]):Calls ay 265 #[aj B,ah k] w fun e w'=>e = .returned (.tuple #[ah 0,ah 12])/\w=w':=by
 obtain ⟨a,n,c,hc,hr,hn⟩:=hq.at_ h
 have hk0:0<=k:=by simp [cls] at h;omega
 have hk4:k<4:=by simp [cls] at h;omega
 rw [h0] at hn
 simp at hn
 rw [hn] at hc
 clear hr hn h0
 go_enter func265,ntmps265
 go_wp2_with (go_at_call 198;refine (yK h).mono ?_;rintro e w' ⟨rfl,rfl⟩)
 go_ret2
 exact ⟨rfl,rfl⟩
theorem Un {o:Ow} (B:Nat) (q:Qu) (k x:Int) (xs:List Int) (w:World) (hq:fP o w B q) (h:cls k=true) (h0:q.row k=x::xs) (hm:q.opn<=1000000000) :
 Calls ay 265 #[aj B,ah k] w fun e w'=>e = .returned (.tuple #[ah x,ah 0])/\fP o w' B (q.take k)/\Keep (only B) w w':=by
 obtain ⟨a,n,c,hc,hr,hn⟩:=hq.at_ h
 have hk0:0<=k:=by simp [cls] at h;omega
 have hk4:k<4:=by simp [cls] at h;omega
 have hcut:=hr.cut 1 (by rw [hn,h0];simp)
 have hQ:=hq.setRow (zs:=(q.row k).drop 1) h (by rw [List.map_drop];exact hcut)
 have hQ2:=hQ.Az (q.opn+1)
 have e9:((q.opn+1:Nat):Int)=(q.opn:Int)+1:=by omega
 rw [e9] at hQ2
 have hop:∀ v,(w.setCell ⟨B,k.toNat,none⟩ v).cell? ⟨B,4,none⟩=some (ah q.opn):=fun v=>by
  rw [World.cell?_setCell_other]
  ·exact hq.open_
  ·intro e
   injection e with _ e2
   omega
 obtain ⟨-,-,-,hcell⟩:=hr.toV.cells
 rw [h0] at hn hcell
 simp only [List.length_cons] at hn
 obtain ⟨b',off',rfl,hx⟩:=hcell (by omega)
 have hx0:=hx 0 (ah x) rfl
 rw [Nat.add_zero] at hx0
 have hne:((n:Int)==0)=false:=by simp;omega
 have hpos:(0:Int)<n:=by omega
 have hf:=hq.free k.toNat
 have hf4:=hq.free 4
 have HQ:=au hQ2
 have hn9:(n:Int)<=4000000000000:=by
  have:=hr.toV.cells.2.1;have:=hr.toV.cells.2.2.1;omega
 clear hcell hx hn h0 hQ hQ2 hr hcut e9
 by_cases hc1:c=1
 ·subst hc1
  have e:oP (some ⟨b',off',none⟩) 1 1=some ⟨b',off',none⟩:=rfl
  rw [e] at HQ
  go_enter func265,ntmps265
  go_wp2_with (go_at_call 198;refine (yK h).mono ?_;rintro e w' ⟨rfl,rfl⟩)
  go_region
  all_goals
   go_wp2_with fail
   go_ret2
   exact ⟨rfl,HQ.out.drew,(((Keep.refl (only B) _).put _ _).put _ _).drew⟩
 ·have e:oP (some ⟨b',off',none⟩) c 1=some ⟨b',off'+1,none⟩:=by simp [oP,hc1,Addr.add]
  rw [e] at HQ
  clear e
  go_enter func265,ntmps265
  go_wp2_with (go_at_call 198;refine (yK h).mono ?_;rintro e w' ⟨rfl,rfl⟩)
  go_region
  all_goals
   go_wp2_with fail
   go_ret2
   exact ⟨rfl,HQ.out.drew,(((Keep.refl (only B) _).put _ _).put _ _).drew⟩
def Qu.sum (q:Qu):Nat->Nat
 | 0=>q.opn
 | k+1=>q.sum k+(q.rows.getD k []).length
def Qu.rests (q:Qu):Bool:=q.sum 4==0
theorem Qu.aaM (q:Qu) (k:Nat) (h:k<4):q.len (k:Int)=(q.rows.getD k []).length:=by
 have hc:cls (k:Int)=true:=by simp [cls];omega
 simp [Qu.len,hc,Qu.row]
theorem ZK {o:Ow} {B:Nat} {q:Qu} {k:Int} {w:World} {n:Int} (h:fP o w B q) (hn:q.len k=n):Calls ay 304 #[aj B,ah k] w fun e w'=>e = .returned (ah n)/\w=w':=by
 rw [<- hn];exact Xg B q k w h
def Qu.small (q:Qu):Prop:=q.opn<=1000000000/\∀ k,(q.rows.getD k []).length<=1000000000
theorem Qu.aaN (q:Qu) (h:q.small) (k:Nat):q.sum k<=1000000000*(k+1):=by
 induction k with
 | zero=>have:=h.1;simp [Qu.sum];exact this
 | succ k ih=>have:=h.2 k;simp only [Qu.sum];omega
theorem QT {o:Ow} (B:Nat) (q:Qu) (w:World) (h:fP o w B q) (hs:q.small):Calls ay 299 #[aj B] w fun e w'=>e = .returned (.bool q.rests)/\w=w':=by
 have HL:=au q.aaM
 have HS:=au (q.aaN hs)
 have h2:=au hs.2
 have h0:(q.opn:Int)=(q.sum 0:Nat):=rfl
 have H0:=au h0
 clear hs h0
 go_enter func299,ntmps299
 go_wp2_with (go_at_call 303;refine (Ul _ _ _ h).mono ?_;rintro e w' ⟨rfl,rfl⟩)
 go_loop [3,7] (fun n i=>∃ k:Nat,k<=4/\i = ah k/\n = ah (q.sum k)) (fun _ i=>4 - (intOf i).toNat)
 case atStart=>exact ⟨0,by omega,rfl,by rw [H0.out]⟩
 case round =>
  obtain ⟨k,hk,rfl,rfl⟩:=hrel
  by_cases hlt:k<4
  ·have b1:=HS.out k
   have b2:=h2.out k
   have e:((q.sum (k+1):Nat):Int)=(q.sum k:Int)+((q.rows.getD k []).length:Nat):=by simp only [Qu.sum];omega
   have HE:=au e
   have HK:=au (HL.out k hlt)
   clear e
   generalize (q.rows.getD k []).length=m at *
   generalize q.sum k=s at *
   go_wp2_with (go_at_call 304;refine (ZK h HK.out).mono ?_;rintro e w' ⟨rfl,rfl⟩)
   go_round
   case rel=>exact ⟨k+1,by omega,by go_num,by rw [HE.out]⟩
   case measure=>simp [intOf];omega
  ·obtain rfl:k=4:=by omega
   have HR:Hid (q.rests=((q.sum 4:Int)==0)):=by
    rw [Hid,Qu.rests,Bool.eq_iff_iff];simp
   go_wp2_with fail
   go_ret
   rw [HR.out]
   exact ⟨rfl,rfl⟩
def Qu.rw (q:Qu) (k:Nat):List Int:=q.rows.getD k []
theorem Qu.row_of (q:Qu) (k:Nat):q.row (k:Int)=q.rw k:=by simp [Qu.row,Qu.rw]
theorem KO (k:Nat) (h:k<4):cls (k:Int)=true:=by simp [cls];omega
theorem Uo {o:Ow} (B:Nat) (q:Qu) (w:World) (h:fP o w B q) (hn:∀ k,k<4->q.rw k=[]):Calls ay 296 #[aj B] w fun e w'=>e = .returned (.tuple #[ah 0,ah 0,ah 12])/\w=w':=by
 have key:∀ k:Nat,k<4->∀ wx,wx=w->Calls ay 265 #[aj B,ah k] wx fun e w'=>e = .returned (.tuple #[ah 0,ah 12])/\wx=w' :=
  fun k hk wx e=>by subst e;exact Dn B q k wx h (KO k hk) (by rw [q.row_of];exact hn k hk)
 have KEY:=au key
 clear key hn h
 go_enter func296,ntmps296
 go_wp2_with fail
 go_step3
 go_wp2_with fail
 go_step3
 go_wp2_with fail
 go_loopg [5,6,7,8] 4 (fun g b k e i wr=>∃ j:Nat,g+j=4/\i = ah j/\e = ah 12/\wr=w)
 case atStart=>exact ⟨0,rfl,rfl,rfl,rfl⟩
 case round =>
  obtain ⟨j,hj,rfl,rfl,rfl⟩:=hrel
  by_cases hlt:j<4
  ·go_wp2_with (go_at_call 265;refine (KEY.out j hlt _ rfl).mono ?_;rintro e w' ⟨rfl,rfl⟩)
   go_roundg (gk - 1)
   case measure=>omega
   case rel=>exact ⟨j+1,by omega,by go_num,rfl,rfl⟩
  ·go_wp2_with fail
   try rw [Exit.noGoto_ret]
   go_ret3
   exact ⟨rfl,rfl⟩
theorem Xi {o:Ow} (B:Nat) (q:Qu) (m:Nat) (x:Int) (xs:List Int) (w:World) (h:fP o w B q) (hm:m<4) (hn:∀ k,k<m->q.rw k=[]) (hx:q.rw m=x::xs) (ho:q.opn<=1000000000) :
 Calls ay 296 #[aj B] w fun e w'=>e = .returned (.tuple #[ah x,ah m,ah 0])/\fP o w' B (q.take m)/\Keep (only B) w w':=by
 have key:∀ k:Nat,k<m->∀ wx,wx=w->Calls ay 265 #[aj B,ah k] wx fun e w'=>e = .returned (.tuple #[ah 0,ah 12])/\wx=w' :=
  fun k hk wx e=>by subst e;exact Dn B q k wx h (KO k (by omega)) (by rw [q.row_of];exact hn k hk)
 have KEY:=au key
 have KX:=au (Un B q m x xs w h (KO m hm) (by rw [q.row_of];exact hx) ho)
 clear key hn h hx
 go_enter func296,ntmps296
 go_wp2_with fail
 go_step3
 go_wp2_with fail
 go_step3
 go_wp2_with fail
 go_loopg [5,6,7,8] 4 (fun g b k e i wr=>∃ j:Nat,g+j=4/\j<=m/\i = ah j/\e = ah 12/\wr=w)
 case atStart=>exact ⟨0,rfl,by omega,rfl,rfl,rfl⟩
 case round =>
  obtain ⟨j,hj,hjm,rfl,rfl,rfl⟩:=hrel
  by_cases hlt:j<m
  ·go_wp2_with (go_at_call 265;refine (KEY.out j hlt _ rfl).mono ?_;rintro e w' ⟨rfl,rfl⟩)
   go_roundg (gk - 1)
   case measure=>omega
   case rel=>exact ⟨j+1,by omega,by omega,by go_num,rfl,rfl⟩
  ·obtain rfl:j=m:=by omega
   go_wp2_with (go_at_call 265;refine KX.out.mono ?_;rintro e w' ⟨rfl,hq2,hk2⟩)
   try rw [Exit.noGoto_ret]
   go_ret3
   exact ⟨rfl,hq2,hk2⟩
end
section
open Go.RowKit Go.Sort
structure fE where
 k:Int
 a:Int
 b:Int
 c:Int
deriving DecidableEq
def fE.cells (o:fE):List Value:=[ah o.k,ah o.a,ah o.b,ah o.c]
def isKind (k:Int):Bool:=decide (1<=k)&&decide (k<9)
def mF (k:Int):List UInt8:=if isKind k then rG.getD (2*k.toNat+1) [] else []
def adX (k:Int):List UInt8:=if isKind k then rG.getD (2*k.toNat) [] else []
theorem Ur (k:Int) (w:World):Calls ay 179 #[ah k] w fun e w'=>e = .returned (.bool (isKind k))/\w'=w:=by
 by_cases h:1<=k
 ·have h1:decide (1<=k)=true:=decide_eq_true h
  clear h
  go_enter func179,ntmps179
  go_wp2
  go_ret
  exact ⟨by simp [isKind,h1],rfl⟩
 ·have h1:decide (1<=k)=false:=decide_eq_false h
  clear h
  go_enter func179,ntmps179
  go_wp2
  go_ret
  exact ⟨by simp [isKind,h1],rfl⟩
theorem Xj (k:Int) (w:World) (hT:Tabs w):Calls ay 219 #[ah k] w fun e w'=>e = .returned (.string ⟨(mF k).toArray⟩)/\w'=w:=by
 have HIS:=au (Ur k)
 cases hk:isKind k with
 | false =>
   have HE:Hid (mF k=[]):=by simp [Hid,mF,hk]
   rw [hk] at HIS
   clear hk hT
   go_enter func219,ntmps219
   go_wp2_with (go_at_call 179;refine (HIS.out _).mono ?_;rintro e w1 ⟨rfl,rfl⟩)
   go_ret
   exact ⟨by rw [HE.out];rfl,rfl⟩
 | true =>
   have hk':=hk
   simp [isKind] at hk'
   obtain ⟨n,rfl⟩:∃ n:Nat,k=n:=⟨k.toNat,by omega⟩
   have hlt:2*n+1<rG.length:=by simp [rG];omega
   have hc:=hT.kind (2*n+1) _ (List.getElem?_eq_getElem hlt)
   have HE:Hid (mF (n:Int)=rG[2*n+1]):=by
    simp only [Hid,mF,hk,if_true]
    simp [hlt]
   rw [HE.out]
   generalize rG[2*n+1]=s at *
   have hc2:w.cell? ⟨4,n*2+1,none⟩=some (.string ⟨s.toArray⟩):=by rw [Nat.mul_comm];exact hc
   rw [hk] at HIS
   clear hk hT HE hc
   have hn:(n:Int)<9:=by omega
   have hn2:n<9:=by omega
   clear hk'
   go_enter func219,ntmps219
   go_wp2_with (go_at_call 179;refine (HIS.out _).mono ?_;rintro e w1 ⟨rfl,rfl⟩)
   go_ret
   exact ⟨rfl,rfl⟩
def fJ (cur n below e:Int):Int:=if cur=0/\(n<0\/below<=n) then e else cur
theorem AA (n below e cur:Int) (O:Nat) (w:World) (hO:aA w O [ah cur] 35) :
 Calls ay 180 #[ah n,ah below,ah e,aj O] w fun x w'=>x = .returned (.tuple #[])/\aA w' O [ah (fJ cur n below e)] 35/\Keep (only O) w w':=by
 have c0:=hO.cell 0 rfl
 have f0:=hO.free 0
 have HO:=au hO
 clear hO
 by_cases h0:cur=0
 ·subst h0
  by_cases h1:n<0
  ·have HE:Hid (fJ 0 n below e=e):=by simp [Hid,fJ,h1]
   have h1':decide (n<0)=true:=decide_eq_true h1
   clear h1
   go_enter func180,ntmps180
   go_wp2
   go_end0
   exact ⟨rfl,by rw [HE.out];exact HO.out.set 0 _,(Keep.refl _ _).put _ _⟩
  ·have h1':decide (n<0)=false:=decide_eq_false h1
   by_cases h2:below<=n
   ·have HE:Hid (fJ 0 n below e=e):=by simp [Hid,fJ,h2]
    have h2':decide (below<=n)=true:=decide_eq_true h2
    clear h1 h2
    go_enter func180,ntmps180
    go_wp2
    go_end0
    exact ⟨rfl,by rw [HE.out];exact HO.out.set 0 _,(Keep.refl _ _).put _ _⟩
   ·have HE:Hid (fJ 0 n below e=0):=by unfold Hid fJ;exact if_neg (by omega)
    have h2':decide (below<=n)=false:=decide_eq_false h2
    clear h1 h2
    go_enter func180,ntmps180
    go_wp2
    go_end0
    exact ⟨rfl,by rw [HE.out];exact HO.out,Keep.refl _ _⟩
 ·have HE:Hid (fJ cur n below e=cur):=by simp [Hid,fJ,h0]
  have h0':(cur==0)=false:=by simpa using h0
  clear h0
  go_enter func180,ntmps180
  go_wp2
  go_end0
  exact ⟨rfl,by rw [HE.out];exact HO.out,Keep.refl _ _⟩
def fG (c:aK) (cur:Int) (l:UInt8) (n:Int):Int:=if l=114 then fJ cur n c.r 5 else if l=99 then fJ cur n c.c 9 else if l=115 then fJ cur n 16 8 else cur
theorem QU (c:aK) (l:UInt8) (n cur:Int) (B i O V C:Nat) (w:World) (hO:aA w O [ah cur] 35) (hV:aA w V [.func (.func 180) #[] #[aj O]] 218) (hC:aA w C c.cells 23) (hn:w.cell? ⟨B,i,none⟩=some (ah n)) :
 Calls ay 182 #[.int .u8 l.toNat,.pointer (some ⟨B,i,none⟩),aj V,aj C] w fun x w'=>x = .returned (.tuple #[])/\aA w' O [ah (fG c cur l n)] 35/\Keep (only O) w w':=by
 have v0:=hV.cell 0 rfl
 have k3:w.cell? ⟨C,3,none⟩=some (ah c.r):=hC.cell 3 rfl
 have k4:w.cell? ⟨C,4,none⟩=some (ah c.c):=hC.cell 4 rfl
 have HO:=au hO
 clear hO hV hC
 by_cases h1:l=114
 ·subst h1
  have HE:Hid (fG c cur 114 n=fJ cur n c.r 5):=by simp [Hid,fG]
  rw [HE.out]
  have HW:Hid (∀ w',aA w' O [ah cur] 35->_):=fun w' h=>AA n c.r 5 cur O w' h
  generalize fJ cur n c.r 5=q at *
  generalize c.r=below at *
  go_enter func182,ntmps182
  go_wp2_with fail
  refine wp_region_still_tail 6 (by kernel_rfl) (by kernel_rfl) ?_
  change wpStill _ _ (World.drew _) _ _ _
  simp only [List.take_succ_cons,List.take_zero,List.drop_succ_cons,List.drop_zero]
  repeat still_step
  refine wpStill_nil ?_
  change wpList _ _ _ _ _ w.drew
  go_wp2_with (go_at_call 180;refine (HW.out _ HO.out.drew).mono ?_;rintro e w1 ⟨rfl,hb,hk⟩)
  go_end0
  exact ⟨rfl,hb,(Keep.refl _ _).drew.trans hk⟩
 by_cases h2:l=99
 ·subst h2
  have HE:Hid (fG c cur 99 n=fJ cur n c.c 9):=by simp [Hid,fG]
  rw [HE.out]
  have HW:Hid (∀ w',aA w' O [ah cur] 35->_):=fun w' h=>AA n c.c 9 cur O w' h
  generalize fJ cur n c.c 9=q at *
  generalize c.c=below at *
  clear h1
  go_enter func182,ntmps182
  go_wp2_with fail
  refine wp_region_still_tail 6 (by kernel_rfl) (by kernel_rfl) ?_
  change wpStill _ _ (World.drew _) _ _ _
  simp only [List.take_succ_cons,List.take_zero,List.drop_succ_cons,List.drop_zero]
  repeat still_step
  refine wpStill_nil ?_
  change wpList _ _ _ _ _ w.drew
  go_wp2_with (go_at_call 180;refine (HW.out _ HO.out.drew).mono ?_;rintro e w1 ⟨rfl,hb,hk⟩)
  go_end0
  exact ⟨rfl,hb,(Keep.refl _ _).drew.trans hk⟩
 by_cases h3:l=115
 ·subst h3
  have HE:Hid (fG c cur 115 n=fJ cur n 16 8):=by simp [Hid,fG]
  rw [HE.out]
  have HW:Hid (∀ w',aA w' O [ah cur] 35->_):=fun w' h=>AA n 16 8 cur O w' h
  generalize fJ cur n 16 8=q at *
  clear h1 h2 k3 k4
  go_enter func182,ntmps182
  go_wp2_with fail
  refine wp_region_still_tail 4 (by kernel_rfl) (by kernel_rfl) ?_
  change wpStill _ _ (World.drew _) _ _ _
  simp only [List.take_succ_cons,List.take_zero,List.drop_succ_cons,List.drop_zero]
  repeat still_step
  refine wpStill_nil ?_
  change wpList _ _ _ _ _ w.drew
  go_wp2_with (go_at_call 180;refine (HW.out _ HO.out.drew).mono ?_;rintro e w1 ⟨rfl,hb,hk⟩)
  go_end0
  exact ⟨rfl,hb,(Keep.refl _ _).drew.trans hk⟩
 have HE:Hid (fG c cur l n=cur):=by simp [Hid,fG,h1,h2,h3]
 rw [HE.out]
 have e1:((l.toNat:Int)==114)=false:=by
  rw [beq_eq_false_iff_ne]; intro h; exact h1 (UInt8.toNat_inj.1 (by have:l.toNat=114:=by omega
                                                                     simpa using this))
 have e2:((l.toNat:Int)==99)=false:=by
  rw [beq_eq_false_iff_ne]; intro h; exact h2 (UInt8.toNat_inj.1 (by have:l.toNat=99:=by omega
                                                                     simpa using this))
 have e3:((l.toNat:Int)==115)=false:=by
  rw [beq_eq_false_iff_ne]; intro h; exact h3 (UInt8.toNat_inj.1 (by have:l.toNat=115:=by omega
                                                                     simpa using this))
 clear h1 h2 h3 k3 k4
 generalize (l.toNat:Int)=li at *
 go_enter func182,ntmps182
 go_wp2_with fail
 go_end0
 exact ⟨rfl,HO.out,Keep.refl _ _⟩
theorem QV {w:World} {s:List UInt8} {cap:Nat} {e:TypeId} {fr:Nat × Nat} {j:Nat} {l:UInt8} (h:s[j]?=some l):(w.alloc (.cells (bytesRow ⟨s.toArray⟩ cap) e fr)).cell? ⟨w.heap.size,j,none⟩=some (.int .u8 l.toNat):=by
 have hj:=(List.getElem?_eq_some_iff.1 h).1
 have e1:(w.alloc (.cells (bytesRow ⟨s.toArray⟩ cap) e fr)).heap[w.heap.size]?=some (.cells (bytesRow ⟨s.toArray⟩ cap) e fr):=by
  show (w.heap.push _)[w.heap.size]?=_
  simp
 have e2:(bytesRow ⟨s.toArray⟩ cap)[j]?=some (.int .u8 l.toNat):=by
  unfold bytesRow
  rw [Array.getElem?_append_left (by simpa using hj)]
  simp [h]
 unfold World.cell?
 simp only [e1]
 exact e2
theorem KP (k:Int):(mF k).length<=3:=by
 unfold mF
 split
 ·rename_i h
  simp [isKind] at h
  obtain ⟨n,rfl⟩:∃ n:Nat,k=n:=⟨k.toNat,by omega⟩
  have hn:n<9:=by omega
  simp only [Int.toNat_natCast]
  have:∀ n,n<9->(rG.getD (2*n+1) []).length<=3:=by decide
  exact this n hn
 ·simp
theorem QW (s:List UInt8) (w:World):∃ N cap W1,(convert 9 24 (.string ⟨s.toArray⟩)).run ay w = .ok (.slice (some ⟨N,0,none⟩) s.length cap) W1/\Hid (∀ j l,s[j]?=some l->W1.cell? ⟨N,j,none⟩=some (.int .u8 l.toNat))/\Hid (Keep none_ w W1)/\Hid (w.heap.size<=N):=by
 have h:=run_bytes_of_string (P:=ay) w 9 24 5 ⟨s.toArray⟩ (by kernel_rfl) (by kernel_rfl) (by kernel_rfl)
 have e:(⟨s.toArray⟩:ByteArray).size=s.length:=by simp [ByteArray.size]
 rw [e] at h
 exact ⟨_,_,_,h,fun j l hj=>QV (w:=w.drew) hj,(Keep.refl _ _).drew.alloc _,Nat.le_refl _⟩
theorem Xk (f:FuncId) (caps:Array Value) (S:Nat->Prop) (I:Nat->World->Prop) (B:Nat) (k:Int) (w:World) (hT:Tabs w) (hB:w.cell? ⟨B,0,none⟩=some (ah k)) (h0:I 0 w)
 (hcf:∀ (args:Array Value) (w:World),(callFunc f args).run ay w = .ok (.enter f args) w)
 (hI:∀ j W W',I j W->Keep none_ W W'->I j W') (hS:∀ i,S i->i<w.heap.size)
 (hstep:∀ j l W,(mF k)[j]?=some l->I j W->Keep S w W->Calls ay f (#[.int .u8 l.toNat,.pointer (some ⟨B,j+1,none⟩)]++caps) W fun x W'=>x = .returned (.tuple #[])/\I (j+1) W'/\Keep S W W') :
 Calls ay 181 #[aj B,.func (.func f) #[] caps] w fun x w'=>x = .returned (.tuple #[])/\I (mF k).length w'/\Keep S w w':=by
 obtain ⟨W0,hW0⟩:∃ W',W'=(w.alloc (.cells #[.pointer (some ⟨B,1,none⟩),.pointer (some ⟨B,2,none⟩),.pointer (some ⟨B,3,none⟩)] 241)).drew:=⟨_,rfl⟩
 have hk0:Keep none_ w W0:=by rw [hW0];exact ((Keep.refl _ _).alloc _).drew
 have hb0:aA W0 w.heap.size [.pointer (some ⟨B,1,none⟩),.pointer (some ⟨B,2,none⟩),.pointer (some ⟨B,3,none⟩)] 241:=by rw [hW0];exact (aA.new w _ _).drew
 obtain ⟨s,hs⟩:∃ s,s=mF k:=⟨_,rfl⟩
 have HL:Hid (s.length<=3):=by rw [hs];exact KP k
 have HU:=au (Xj k W0 (hT.keep hk0))
 have hB0:=hk0.still hB
 rw [<- hs] at HU hstep ⊢
 obtain ⟨N,cap,W1,hcv,HC,aJ,HN⟩:=QW s W0
 have yL:Hid (w.heap.size<=N):=Nat.le_trans hk0.size HN.out
 have HI:=au hI
 have HS:=au hS
 have acB:=au hstep
 have H0:Hid (I 0 W1):=hI _ _ _ (hI _ _ _ h0 hk0) aJ.out
 have HB1:=au (aJ.out.blk hb0 (fun f=>f))
 have aaO:=au (hk0.trans aJ.out)
 clear hT hI hS hstep h0 hs HN hk0 hb0 hB
 go_enter func181,ntmps181
 go_wp2_with fail
 go_region
 rw [<- hW0]
 clear hW0
 go_wp2_with (go_at_call 219;refine HU.out.mono ?_;rintro e w1 ⟨rfl,rfl⟩)
 go_loopg [5,6,24] s.length (fun g i5 l6 i24 wr=>∃ j:Nat,g+j=s.length/\i24 = ah j/\Hid (I j wr)/\Hid (Keep S W1 wr))
 case atStart=>exact ⟨0,rfl,rfl,H0,Keep.refl _ _⟩
 case round =>
  obtain ⟨j,hg,rfl,HJ,Us⟩:=hrel
  clear H0
  by_cases hlt:j<s.length
  ·have hj3:j<3:=by have:=HL.out;omega
   have hltz:(j:Int)<s.length:=by omega
   have aed:(j:Int)<3:=by omega
   have cl:=Us.out.jM (HC.out j _ (List.getElem?_eq_getElem hlt)) (fun h=>absurd (HS.out _ h) (by have:=yL.out;simp;omega))
   have cp:wr.cell? ⟨w.heap.size,j,none⟩=some (.pointer (some ⟨B,j+1,none⟩)):=by
    refine Us.out.jM (HB1.out.cell j ?_) (fun h=>absurd (HS.out _ h) (by simp))
    rcases (by omega:j=0\/j=1\/j=2) with rfl|rfl|rfl<;>rfl
   have acC:=au (acB.out j _ wr (List.getElem?_eq_getElem hlt) HJ.out ((aaO.out.mono (fun _ _ f=>f.elim)).trans Us.out))
   generalize s[j]=l at *
   clear hj3
   go_wp2_with (refine acC.out.mono ?_;rintro e w2 ⟨rfl,hj2,hk2⟩)
   have HJ2:=au hj2
   have bJ:=au (Us.out.trans hk2)
   clear hj2 hk2
   go_roundg (gk - 1)
   case measure=>omega
   case rel=>exact ⟨j+1,by omega,by go_num,HJ2,bJ⟩
  ·obtain rfl:j=s.length:=by omega
   have hge:¬ ((s.length:Int)<s.length):=by omega
   clear hg
   go_wp2_with fail
   go_end0
   exact ⟨rfl,HJ.out,(aaO.out.mono (fun _ _ f=>f.elim)).trans Us.out⟩
end
end Go.Proofs.YtanfphjoebobaaaGreatDoor
