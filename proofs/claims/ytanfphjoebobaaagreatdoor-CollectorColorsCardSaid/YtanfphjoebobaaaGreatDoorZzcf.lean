/- Parts of a walk, put together and made shorter by a program of mine. No conditions. -/
import Derived.Test.YtanfphjoebobaaaGreatDoorRows
import Derived.Test.YtanfphjoebobaaaGreatDoorZzce
import Derived.WalkKit
import Derived.WalkSpells
import Derived.WalkLawsBesides
import Derived.Lib.Hide
import Derived.RegionTactic
import Derived.Laws.CopyOwn
import Derived.BigRegion
import Derived.Deep.LoopGhost
import Derived.Test.YtanfphjoebobaaaGreatDoorZzcb
import Derived.Laws.IdiomStrings
import Derived.Laws.EntriesVeiled
namespace Go.Proofs.YtanfphjoebobaaaGreatDoor
set_option maxRecDepth 4000
set_option maxHeartbeats 4000000
section
open Go.RowKit
theorem aV.DF {o:Ow} {w w':World} {T:TypeId} {v:Value} {xs:List Value} {B:Nat} (h:aV o w T v xs) (k:Keep (only B) w w') (ho:o B≠0):aV o w' T v xs:=h.keep k (fun b hb e=>by unfold only at e;subst e;exact ho hb)
structure Qu where
 rows:List (List Int)
 opn:Nat
structure dV (o:Ow) (w:World) (B:Nat) (q:Qu):Prop where
 own:o B≠0
 len:q.rows.length=4
 blk:∃ vs:List Value,vs.length=4∧Blk w B (vs++[.int .i64 q.opn]) 172∧∀ (i:Nat) (v:Value) (zs:List Int),vs[i]?=some v→q.rows[i]?=some zs→aV o w 3 v (zs.map (Value.int .i64))
def cls (k:Int):Bool:=decide (0≤k)&&decide (k<4)
theorem QY (k:Int) (w:World):Calls Tryz.prog 198 #[.int .i64 k] w fun e w'=>e = .returned (.bool (cls k))∧w=w':=by
 go_enter Tryz.func198,Tryz.ntmps198
 go_wp2
 ·go_ret
  exact ⟨by simp [cls, *],rfl⟩
 ·go_ret
  have:¬ 0≤k:=by omega
  exact ⟨by simp [cls, *],rfl⟩
theorem su {k:Int} {w:World} {p:Bool} (h:cls k=p):Calls Tryz.prog 198 #[.int .i64 k] w fun e w'=>e = .returned (.bool p)∧w=w':=by
 rw [← h];exact QY k w
def Qu.row (q:Qu) (k:Int):List Int:=q.rows.getD k.toNat []
def Qu.len (q:Qu) (k:Int):Int:=if cls k then (q.row k).length else 0
theorem dV.at_ {o:Ow} {w B q} (h:dV o w B q) {k:Int} (hk:cls k=true):∃ a n c,w.cell? ⟨B,k.toNat,none⟩=some (.slice a n c)∧aV o w 3 (.slice a n c) ((q.row k).map (Value.int .i64))∧n=(q.row k).length:=by
 obtain ⟨ho,hl,vs,hv,hb,hr⟩:=h
 have hk':k.toNat<4:=by simp [cls] at hk;omega
 have h1:vs[k.toNat]?=some (vs[k.toNat]'(by omega)):=List.getElem?_eq_getElem _
 have h2:q.rows[k.toNat]?=some (q.row k):=by
  rw [Qu.row,List.getD_eq_getElem?_getD,List.getElem?_eq_getElem (by omega)];rfl
 have hrow:=hr _ _ _ h1 h2
 obtain ⟨a,c,e,h3⟩:=id hrow
 refine ⟨a,_,c,?_,e▸hrow,by simp⟩
 rw [← e]
 refine hb.cell _ ?_
 rw [List.getElem?_append_left (by omega)];exact h1
theorem OH {o:Ow} (B:Nat) (q:Qu) (k:Int) (w:World) (h:dV o w B q):Calls Tryz.prog 304 #[.pointer (some ⟨B,0,none⟩),.int .i64 k] w fun e w'=>e = .returned (.int .i64 (q.len k))∧w=w':=by
 cases hk:cls k with
 | false =>
   have HE:Hid (q.len k=0):=by simp [Hid,Qu.len,hk]
   go_enter Tryz.func304,Tryz.ntmps304
   go_wp2_with (go_at_call 198;refine (su hk).mono ?_;rintro e w' ⟨rfl,rfl⟩)
   go_ret
   rw [HE.out]
   exact ⟨rfl,rfl⟩
 | true =>
   obtain ⟨a,n,c,hc,hr,hn⟩:=h.at_ hk
   have HE:Hid (q.len k=n):=by simp [Hid,Qu.len,hk,hn]
   have h0:0≤k:=by simp [cls] at hk;omega
   have h4:k<4:=by simp [cls] at hk;omega
   clear hr hn
   go_enter Tryz.func304,Tryz.ntmps304
   go_wp2_with (go_at_call 198;refine (su hk).mono ?_;rintro e w' ⟨rfl,rfl⟩)
   go_ret
   rw [HE.out]
   exact ⟨rfl,rfl⟩
theorem dV.open_ {o:Ow} {w B q} (h:dV o w B q):w.cell? ⟨B,4,none⟩=some (.int .i64 q.opn):=by
 obtain ⟨ho,hl,vs,hv,hb,hr⟩:=h
 refine hb.cell _ ?_
 rw [List.getElem?_append_right (by omega),hv];rfl
theorem dV.free {o:Ow} {w B q} (h:dV o w B q) (i:Nat):w.frozen? ⟨B,i,none⟩=false:=by
 obtain ⟨ho,hl,vs,hv,hb,hr⟩:=h
 exact hb.free i
theorem LK {o:Ow} (B:Nat) (q:Qu) (w:World) (h:dV o w B q):Calls Tryz.prog 303 #[.pointer (some ⟨B,0,none⟩)] w fun e w'=>e = .returned (.int .i64 q.opn)∧w=w':=by
 have hc:=h.open_
 clear h
 go_enter Tryz.func303,Tryz.ntmps303
 go_wp2
 go_ret
 exact ⟨rfl,rfl⟩
def Qu.uU (q:Qu) (n:Nat):Qu:={ q with opn:=n }
theorem dV.uU {o:Ow} {w B q} (h:dV o w B q) (n:Nat):dV o (w.setCell ⟨B,4,none⟩ (.int .i64 n)) B (q.uU n):=by
 obtain ⟨ho,hl,vs,hv,hb,hr⟩:=h
 refine ⟨ho,hl,vs,hv,?_,fun i v zs h1 h2=>(hr i v zs h1 h2).DF ((Keep.refl (only B) _).put _ _) ho⟩
 have:=hb.set 4 (.int .i64 n)
 rw [List.set_append_right _ _ (by omega),hv] at this
 exact this
def Qu.yQ (q:Qu):Int:=if q.opn=0 then 11 else 0
def Qu.lQ (q:Qu):Qu:=q.uU (q.opn - 1)
theorem LM {o:Ow} (B:Nat) (q:Qu) (w:World) (h:dV o w B q) (hm:q.opn≤1000000000):Calls Tryz.prog 279 #[.pointer (some ⟨B,0,none⟩)] w fun e w'=>e = .returned (.int .i64 q.yQ)∧dV o w' B q.lQ∧Keep (only B) w w':=by
 have hc:=h.open_
 have hf:=h.free 4
 by_cases h0:q.opn=0
 ·have HE:Hid (q.yQ=11∧q.lQ=q):=by
   refine ⟨by simp [Qu.yQ,h0],?_⟩
   obtain ⟨r,o⟩:=q
   simp at h0;subst h0;rfl
  rw [h0] at hc
  clear h0
  go_enter Tryz.func279,Tryz.ntmps279
  go_wp2
  go_ret
  rw [HE.out.1,HE.out.2]
  exact ⟨rfl,h,Keep.refl _ _⟩
 ·have HE:Hid (q.yQ=0):=by simp [Hid,Qu.yQ,h0]
  have hne:((q.opn:Int)==0)=false:=by simp;omega
  have h1:(1:Int)≤q.opn:=by omega
  have hs:=h.uU (q.opn - 1)
  have e:((q.opn - 1:Nat):Int)=(q.opn:Int) - 1:=by omega
  rw [e] at hs
  have HS:=Lib.hid hs
  clear hs e h0
  go_enter Tryz.func279,Tryz.ntmps279
  go_wp2
  go_ret
  rw [HE.out]
  exact ⟨rfl,HS.out,(Keep.refl (only B) _).put _ _⟩
def Qu.put (q:Qu) (k b:Int):Qu:={ q with rows:=q.rows.set k.toNat (q.row k++[b]) }
def DI (k b:Int):Bool:=cls k&&decide (0≤b)
theorem dV.setRow {o:Ow} {w B q} (h:dV o w B q) {k:Int} (hk:cls k=true) {v:Value} {zs:List Int} (hv:aV o w 3 v (zs.map (Value.int .i64))) :
 dV o (w.setCell ⟨B,k.toNat,none⟩ v) B { q with rows:=q.rows.set k.toNat zs }:=by
 obtain ⟨ho,hl,vs,hvl,hb,hr⟩:=h
 have hk':k.toNat<4:=by simp [cls] at hk;omega
 have hkeep:∀ u,Keep (only B) w (w.setCell ⟨B,k.toNat,none⟩ u):=fun u=>(Keep.refl (only B) _).put _ _
 refine ⟨ho,by simpa using hl,vs.set k.toNat v,by simpa using hvl,?_,fun i u zs' h1 h2=>?_⟩
 ·have:=hb.set k.toNat v
  rw [List.set_append_left _ _ (by omega)] at this
  exact this
 ·by_cases e:k.toNat=i
  ·subst e
   rw [List.getElem?_set_self (by omega)] at h1 h2
   simp at h1 h2
   subst h1 h2
   exact hv.DF (hkeep _) ho
  ·rw [List.getElem?_set_ne e] at h1 h2
   exact (hr i u zs' h1 h2).DF (hkeep _) ho
theorem dV.still {o:Ow} {w w' B q} (h:dV o w B q) (k:Keep none_ w w'):dV o w' B q:=by
 obtain ⟨ho,hl,vs,hv,hb,hr⟩:=h
 exact ⟨ho,hl,vs,hv,k.blk hb (fun f=>f),fun i v zs h1 h2=>(hr i v zs h1 h2).still k⟩
theorem Tryz.sizeInt:(Tryz.prog.info? 3).map (·.size)=some 1:=by kernel_rfl
theorem OI {o:Ow} (B:Nat) (q:Qu) (k b:Int) (w:World) (h:dV o w B q) (hok:DI k b=true) (hm:(q.row k).length≤1000000000) (hf0:Fut o w) :
 Calls Tryz.prog 294 #[.pointer (some ⟨B,0,none⟩),.int .i64 k,.int .i64 b] w fun e w'=>e = .returned (.int .i64 0)∧dV o w' B (q.put k b)∧Keep (only B) w w':=by
 have hk:cls k=true:=by simp [DI] at hok;exact hok.1
 have hb0:¬ b<0:=by simp [DI] at hok;omega
 obtain ⟨a,n,c,hc,hr,hn⟩:=h.at_ hk
 have h0:0≤k:=by simp [cls] at hk;omega
 have h4:k<4:=by simp [cls] at hk;omega
 have hmk:=run_mk (P:=Tryz.prog) Tryz.underlying32 Tryz.infoInt rfl (by decide) (n+1) (by omega) ((n:Int)+1) (by omega)
 have hlt:B<w.heap.size:=World.block_lt_of_cell? _ _ hc
 have hc1:∀ o,(w.alloc o).cell? ⟨B,k.toNat,none⟩=some (.slice a n c):=fun o=>by rw [World.cell?_alloc_lt _ _ _ hlt];exact hc
 have hn1:n≤1000000000:=by omega
 have hxs:((q.row k).map (Value.int .i64)).length=n:=by simp [hn]
 have HX:=Lib.hid hxs
 have HL:=Lib.hid (show (q.row k).length=n from hn.symm)
 have HR:=Lib.hid hr.toV.cells
 have HN:=Lib.hid hn
 have HC3:Hid (0<((q.row k).map (Value.int .i64)).length→∃ ad,a=some ad∧∀ (j:Nat) (v:Value),((q.row k).map (Value.int .i64))[j]?=some v→(w.alloc (.cells (zeros (.int .i64 0) (n+1)).toArray 3)).cell? (ad.add j)=some v):=by
  intro h0
  rw [HX.out] at h0
  obtain ⟨b',off',rfl,hcs⟩:=HR.out.2.2.2 h0
  refine ⟨_,rfl,fun j v hj=>?_⟩
  have hcj:=hcs j v hj
  have ea:(⟨b',off',none⟩:Addr).add j=⟨b',off'+j,none⟩:=by simp only [Addr.add];split<;>simp_all
  rw [ea,World.cell?_alloc_lt _ _ _ (World.block_lt_of_cell? _ _ hcj)]
  exact hcj
 have HF0:=Lib.hid hf0
 clear hr hn hok hxs hf0
 go_enter Tryz.func294,Tryz.ntmps294
 go_wp2_with first|(go_at_call 198;refine (su hk).mono ?_;rintro e w' ⟨rfl,rfl⟩)|(refine wpList_copy_splice rfl (.tmp 29) (.tmp 35) 32 32 rfl 3 Tryz.underlying32 Tryz.sizeInt _ _ (n+1) (n+1) n c rfl rfl w.heap.size 0 (zeros (.int .i64 0) (n+1)) 3 ?c1 ((q.row k).map (Value.int .i64)) ?c2 (fun h0=>⟨rfl,HC3.out h0⟩) ?c4 ?c5 w.heap.size w ?c6 ?c7 ?_)
 case c1=>exact Blk.new w (zeros (.int .i64 0) (n+1)) 3
 case c2=>rw [HX.out];simp
 case c4=>rw [HX.out,LD];omega
 case c5=>simp;exact fun _ _=>rfl
 case c6=>exact (Below.refl _ _).alloc (Nat.le_refl _) _
 case c7=>exact Nat.le_refl _
 intro w2 hg2 hb2
 have hg3:Blk w2 w.heap.size ((q.row k).map (Value.int .i64)++[.int .i64 0]) 3:=by
  have:=hg2.out
  unfold Blk
  rw [this]
  congr 3
  simp only [splice,List.take_zero,List.nil_append,Nat.zero_add]
  rw [HX.out]
  simp [zeros]
 clear hg2
 rw [HL.out]
 have hkp2:Keep none_ w w2:=Keep.H8 hb2 none_
 have hkp3:=hkp2.dJ (B:=w.heap.size) (Nat.le_refl _) n (.int .i64 b)
 have hg4:Blk (w2.setCell ⟨w.heap.size,n,none⟩ (.int .i64 b)) w.heap.size ((q.row k++[b]).map (Value.int .i64)) 3:=by
  have:=hg3.set n (.int .i64 b)
  rw [List.set_append_right _ _ (by rw [HX.out];exact Nat.le_refl _),HX.out] at this
  simpa using this
 have hQ:=(h.still hkp3).setRow hk (aV.UJ hg4 (HF0.out _ (Nat.le_refl _)) (n:=n+1) (by simp [HL.out]) (by omega))
 have HQ:=Lib.hid hQ
 have e0:w2.cell? ⟨w.heap.size,n,none⟩=some (.int .i64 0):=hg3.cell n (by rw [List.getElem?_append_right (by rw [HX.out];exact Nat.le_refl _),HX.out];simp)
 have f0:=hg3.free n
 have e1:(w2.setCell ⟨w.heap.size,n,none⟩ (.int .i64 b)).cell? ⟨B,k.toNat,none⟩=some (.slice a n c):=hkp3.still hc
 have f1:w2.frozen? ⟨B,k.toNat,none⟩=false:=by rw [hkp2.frozen hlt (fun f=>f)];exact h.free _
 have hkf:Keep (only B) w (w2.setCell ⟨w.heap.size,n,none⟩ (.int .i64 b)):=hkp3.mono (fun _ _ f=>f.elim)
 clear hg3 hg4 hQ hb2 hc1 hmk hkp2 hkp3
 go_wp2_with fail
 go_ret
 refine ⟨rfl,HQ.out,hkf.put _ _⟩
theorem dV.drew {o:Ow} {w B q} (h:dV o w B q):dV o w.drew B q:=⟨h.own,h.len,h.blk⟩
def Qu.take (q:Qu) (k:Int):Qu:={ rows:=q.rows.set k.toNat ((q.row k).drop 1),opn:=q.opn+1 }
theorem wZ {o:Ow} (B:Nat) (q:Qu) (k:Int) (w:World) (hq:dV o w B q) (h:cls k=true) (h0:q.row k=[]):Calls Tryz.prog 265 #[.pointer (some ⟨B,0,none⟩),.int .i64 k] w fun e w'=>e = .returned (.tuple #[.int .i64 0,.int .i64 12])∧w=w':=by
 obtain ⟨a,n,c,hc,hr,hn⟩:=hq.at_ h
 have hk0:0≤k:=by simp [cls] at h;omega
 have hk4:k<4:=by simp [cls] at h;omega
 rw [h0] at hn
 simp at hn
 rw [hn] at hc
 clear hr hn h0
 go_enter Tryz.func265,Tryz.ntmps265
 go_wp2_with (go_at_call 198;refine (su h).mono ?_;rintro e w' ⟨rfl,rfl⟩)
 go_ret2
 exact ⟨rfl,rfl⟩
theorem LQ {o:Ow} (B:Nat) (q:Qu) (k x:Int) (xs:List Int) (w:World) (hq:dV o w B q) (h:cls k=true) (h0:q.row k=x::xs) (hm:q.opn≤1000000000) :
 Calls Tryz.prog 265 #[.pointer (some ⟨B,0,none⟩),.int .i64 k] w fun e w'=>e = .returned (.tuple #[.int .i64 x,.int .i64 0])∧dV o w' B (q.take k)∧Keep (only B) w w':=by
 obtain ⟨a,n,c,hc,hr,hn⟩:=hq.at_ h
 have hk0:0≤k:=by simp [cls] at h;omega
 have hk4:k<4:=by simp [cls] at h;omega
 have hcut:=hr.cut 1 (by rw [hn,h0];simp)
 have hQ:=hq.setRow (zs:=(q.row k).drop 1) h (by rw [List.map_drop];exact hcut)
 have hQ2:=hQ.uU (q.opn+1)
 have e9:((q.opn+1:Nat):Int)=(q.opn:Int)+1:=by omega
 rw [e9] at hQ2
 have hop:∀ v,(w.setCell ⟨B,k.toNat,none⟩ v).cell? ⟨B,4,none⟩=some (.int .i64 q.opn):=fun v=>by
  rw [World.cell?_setCell_other]
  ·exact hq.open_
  ·intro e
   injection e with _ e2
   omega
 obtain ⟨-,-,-,hcell⟩:=hr.toV.cells
 rw [h0] at hn hcell
 simp only [List.length_cons] at hn
 obtain ⟨b',off',rfl,hx⟩:=hcell (by omega)
 have hx0:=hx 0 (.int .i64 x) rfl
 rw [Nat.add_zero] at hx0
 have hne:((n:Int)==0)=false:=by simp;omega
 have hpos:(0:Int)<n:=by omega
 have hf:=hq.free k.toNat
 have hf4:=hq.free 4
 have HQ:=Lib.hid hQ2
 have hn9:(n:Int)≤4000000000000:=by
  have:=hr.toV.cells.2.1;have:=hr.toV.cells.2.2.1;omega
 clear hcell hx hn h0 hQ hQ2 hr hcut e9
 by_cases hc1:c=1
 ·subst hc1
  have e:kU (some ⟨b',off',none⟩) 1 1=some ⟨b',off',none⟩:=rfl
  rw [e] at HQ
  go_enter Tryz.func265,Tryz.ntmps265
  go_wp2_with (go_at_call 198;refine (su h).mono ?_;rintro e w' ⟨rfl,rfl⟩)
  go_region
  all_goals
   go_wp2_with fail
   go_ret2
   exact ⟨rfl,HQ.out.drew,(((Keep.refl (only B) _).put _ _).put _ _).drew⟩
 ·have e:kU (some ⟨b',off',none⟩) c 1=some ⟨b',off'+1,none⟩:=by simp [kU,hc1,Addr.add]
  rw [e] at HQ
  clear e
  go_enter Tryz.func265,Tryz.ntmps265
  go_wp2_with (go_at_call 198;refine (su h).mono ?_;rintro e w' ⟨rfl,rfl⟩)
  go_region
  all_goals
   go_wp2_with fail
   go_ret2
   exact ⟨rfl,HQ.out.drew,(((Keep.refl (only B) _).put _ _).put _ _).drew⟩
def Qu.sum (q:Qu):Nat→Nat
 | 0=>q.opn
 | k+1=>q.sum k+(q.rows.getD k []).length
def Qu.rests (q:Qu):Bool:=q.sum 4==0
theorem Qu.SQ (q:Qu) (k:Nat) (h:k<4):q.len (k:Int)=(q.rows.getD k []).length:=by
 have hc:cls (k:Int)=true:=by simp [cls];omega
 simp [Qu.len,hc,Qu.row]
theorem QZ {o:Ow} {B:Nat} {q:Qu} {k:Int} {w:World} {n:Int} (h:dV o w B q) (hn:q.len k=n):Calls Tryz.prog 304 #[.pointer (some ⟨B,0,none⟩),.int .i64 k] w fun e w'=>e = .returned (.int .i64 n)∧w=w':=by
 rw [← hn];exact OH B q k w h
def Qu.small (q:Qu):Prop:=q.opn≤1000000000∧∀ k,(q.rows.getD k []).length≤1000000000
theorem Qu.SS (q:Qu) (h:q.small) (k:Nat):q.sum k≤1000000000*(k+1):=by
 induction k with
 | zero=>have:=h.1;simp [Qu.sum];exact this
 | succ k ih=>have:=h.2 k;simp only [Qu.sum];omega
theorem I9 {o:Ow} (B:Nat) (q:Qu) (w:World) (h:dV o w B q) (hs:q.small):Calls Tryz.prog 299 #[.pointer (some ⟨B,0,none⟩)] w fun e w'=>e = .returned (.bool q.rests)∧w=w':=by
 have HL:=Lib.hid q.SQ
 have HS:=Lib.hid (q.SS hs)
 have h2:=Lib.hid hs.2
 have h0:(q.opn:Int)=(q.sum 0:Nat):=rfl
 have H0:=Lib.hid h0
 clear hs h0
 go_enter Tryz.func299,Tryz.ntmps299
 go_wp2_with (go_at_call 303;refine (LK _ _ _ h).mono ?_;rintro e w' ⟨rfl,rfl⟩)
 go_loop [3,7] (fun n i=>∃ k:Nat,k≤4∧i = .int .i64 k∧n = .int .i64 (q.sum k)) (fun _ i=>4 - (intOf i).toNat)
 case atStart=>exact ⟨0,by omega,rfl,by rw [H0.out]⟩
 case round =>
  obtain ⟨k,hk,rfl,rfl⟩:=hrel
  by_cases hlt:k<4
  ·have b1:=HS.out k
   have b2:=h2.out k
   have e:((q.sum (k+1):Nat):Int)=(q.sum k:Int)+((q.rows.getD k []).length:Nat):=by simp only [Qu.sum];omega
   have HE:=Lib.hid e
   have HK:=Lib.hid (HL.out k hlt)
   clear e
   generalize (q.rows.getD k []).length=m at *
   generalize q.sum k=s at *
   go_wp2_with (go_at_call 304;refine (QZ h HK.out).mono ?_;rintro e w' ⟨rfl,rfl⟩)
   go_round
   case rel=>exact ⟨k+1,by omega,by go_num,by rw [HE.out]⟩
   case measure=>simp [intOf];omega
  ·obtain rfl:k=4:=by omega
   have HR:Hid (q.rests=((q.sum 4:Int)==0)):=by
    rw [Hid,Qu.rests,Bool.eq_iff_iff];simp
   go_wp2_with fail
   go_ret
   rw [HR.out]
   exact ⟨rfl,rfl⟩
def Qu.rw (q:Qu) (k:Nat):List Int:=q.rows.getD k []
theorem Qu.row_of (q:Qu) (k:Nat):q.row (k:Int)=q.rw k:=by simp [Qu.row,Qu.rw]
theorem Ec (k:Nat) (h:k<4):cls (k:Int)=true:=by simp [cls];omega
theorem LU {o:Ow} (B:Nat) (q:Qu) (w:World) (h:dV o w B q) (hn:∀ k,k<4→q.rw k=[]):Calls Tryz.prog 296 #[.pointer (some ⟨B,0,none⟩)] w fun e w'=>e = .returned (.tuple #[.int .i64 0,.int .i64 0,.int .i64 12])∧w=w':=by
 have key:∀ k:Nat,k<4→∀ wx,wx=w→Calls Tryz.prog 265 #[.pointer (some ⟨B,0,none⟩),.int .i64 k] wx fun e w'=>e = .returned (.tuple #[.int .i64 0,.int .i64 12])∧wx=w' :=
  fun k hk wx e=>by subst e;exact wZ B q k wx h (Ec k hk) (by rw [q.row_of];exact hn k hk)
 have KEY:=Lib.hid key
 clear key hn h
 go_enter Tryz.func296,Tryz.ntmps296
 go_wp2_with fail
 go_step3
 go_wp2_with fail
 go_step3
 go_wp2_with fail
 go_loopg [5,6,7,8] 4 (fun g b k e i wr=>∃ j:Nat,g+j=4∧i = .int .i64 j∧e = .int .i64 12∧wr=w)
 case atStart=>exact ⟨0,rfl,rfl,rfl,rfl⟩
 case round =>
  obtain ⟨j,hj,rfl,rfl,rfl⟩:=hrel
  by_cases hlt:j<4
  ·go_wp2_with (go_at_call 265;refine (KEY.out j hlt _ rfl).mono ?_;rintro e w' ⟨rfl,rfl⟩)
   go_roundg (gk - 1)
   case measure=>omega
   case rel=>exact ⟨j+1,by omega,by go_num,rfl,rfl⟩
  ·go_wp2_with fail
   try rw [Exit.noGoto_ret]
   go_ret3
   exact ⟨rfl,rfl⟩
theorem OJ {o:Ow} (B:Nat) (q:Qu) (m:Nat) (x:Int) (xs:List Int) (w:World) (h:dV o w B q) (hm:m<4) (hn:∀ k,k<m→q.rw k=[]) (hx:q.rw m=x::xs) (ho:q.opn≤1000000000) :
 Calls Tryz.prog 296 #[.pointer (some ⟨B,0,none⟩)] w fun e w'=>e = .returned (.tuple #[.int .i64 x,.int .i64 m,.int .i64 0])∧dV o w' B (q.take m)∧Keep (only B) w w':=by
 have key:∀ k:Nat,k<m→∀ wx,wx=w→Calls Tryz.prog 265 #[.pointer (some ⟨B,0,none⟩),.int .i64 k] wx fun e w'=>e = .returned (.tuple #[.int .i64 0,.int .i64 12])∧wx=w' :=
  fun k hk wx e=>by subst e;exact wZ B q k wx h (Ec k (by omega)) (by rw [q.row_of];exact hn k hk)
 have KEY:=Lib.hid key
 have KX:=Lib.hid (LQ B q m x xs w h (Ec m hm) (by rw [q.row_of];exact hx) ho)
 clear key hn h hx
 go_enter Tryz.func296,Tryz.ntmps296
 go_wp2_with fail
 go_step3
 go_wp2_with fail
 go_step3
 go_wp2_with fail
 go_loopg [5,6,7,8] 4 (fun g b k e i wr=>∃ j:Nat,g+j=4∧j≤m∧i = .int .i64 j∧e = .int .i64 12∧wr=w)
 case atStart=>exact ⟨0,rfl,by omega,rfl,rfl,rfl⟩
 case round =>
  obtain ⟨j,hj,hjm,rfl,rfl,rfl⟩:=hrel
  by_cases hlt:j<m
  ·go_wp2_with (go_at_call 265;refine (KEY.out j hlt _ rfl).mono ?_;rintro e w' ⟨rfl,rfl⟩)
   go_roundg (gk - 1)
   case measure=>omega
   case rel=>exact ⟨j+1,by omega,by omega,by go_num,rfl,rfl⟩
  ·obtain rfl:j=m:=by omega
   go_wp2_with (go_at_call 265;refine KX.out.mono ?_;rintro e w' ⟨rfl,hq2,hk2⟩)
   try rw [Exit.noGoto_ret]
   go_ret3
   exact ⟨rfl,hq2,hk2⟩
end
section
open Go.RowKit Go.Sort
structure OpR where
 k:Int
 a:Int
 b:Int
 c:Int
deriving DecidableEq
def OpR.cells (o:OpR):List Value:=[.int .i64 o.k,.int .i64 o.a,.int .i64 o.b,.int .i64 o.c]
def isKind (k:Int):Bool:=decide (1≤k)&&decide (k<9)
def jK (k:Int):List UInt8:=if isKind k then mY.getD (2*k.toNat+1) [] else []
def VY (k:Int):List UInt8:=if isKind k then mY.getD (2*k.toNat) [] else []
theorem LV (k:Int) (w:World):Calls Tryz.prog 179 #[.int .i64 k] w fun e w'=>e = .returned (.bool (isKind k))∧w'=w:=by
 by_cases h:1≤k
 ·have h1:decide (1≤k)=true:=decide_eq_true h
  clear h
  go_enter Tryz.func179,Tryz.ntmps179
  go_wp2
  go_ret
  exact ⟨by simp [isKind,h1],rfl⟩
 ·have h1:decide (1≤k)=false:=decide_eq_false h
  clear h
  go_enter Tryz.func179,Tryz.ntmps179
  go_wp2
  go_ret
  exact ⟨by simp [isKind,h1],rfl⟩
theorem OL (k:Int) (w:World) (hT:Tabs w):Calls Tryz.prog 219 #[.int .i64 k] w fun e w'=>e = .returned (.string ⟨(jK k).toArray⟩)∧w'=w:=by
 have HIS:=Lib.hid (LV k)
 cases hk:isKind k with
 | false =>
   have HE:Hid (jK k=[]):=by simp [Hid,jK,hk]
   rw [hk] at HIS
   clear hk hT
   go_enter Tryz.func219,Tryz.ntmps219
   go_wp2_with (go_at_call 179;refine (HIS.out _).mono ?_;rintro e w1 ⟨rfl,rfl⟩)
   go_ret
   exact ⟨by rw [HE.out];rfl,rfl⟩
 | true =>
   have hk':=hk
   simp [isKind] at hk'
   obtain ⟨n,rfl⟩:∃ n:Nat,k=n:=⟨k.toNat,by omega⟩
   have hlt:2*n+1<mY.length:=by simp [mY];omega
   have hc:=hT.kind (2*n+1) _ (List.getElem?_eq_getElem hlt)
   have HE:Hid (jK (n:Int)=mY[2*n+1]):=by
    simp only [Hid,jK,hk,if_true]
    simp [hlt]
   rw [HE.out]
   generalize mY[2*n+1]=s at *
   have hc2:w.cell? ⟨4,n*2+1,none⟩=some (.string ⟨s.toArray⟩):=by rw [Nat.mul_comm];exact hc
   rw [hk] at HIS
   clear hk hT HE hc
   have hn:(n:Int)<9:=by omega
   have hn2:n<9:=by omega
   clear hk'
   go_enter Tryz.func219,Tryz.ntmps219
   go_wp2_with (go_at_call 179;refine (HIS.out _).mono ?_;rintro e w1 ⟨rfl,rfl⟩)
   go_ret
   exact ⟨rfl,rfl⟩
def dS (cur n below e:Int):Int:=if cur=0∧(n<0∨below≤n) then e else cur
theorem uV (n below e cur:Int) (O:Nat) (w:World) (hO:Blk w O [.int .i64 cur] 35) :
 Calls Tryz.prog 180 #[.int .i64 n,.int .i64 below,.int .i64 e,.pointer (some ⟨O,0,none⟩)] w fun x w'=>x = .returned (.tuple #[])∧Blk w' O [.int .i64 (dS cur n below e)] 35∧Keep (only O) w w':=by
 have c0:=hO.cell 0 rfl
 have f0:=hO.free 0
 have HO:=Lib.hid hO
 clear hO
 by_cases h0:cur=0
 ·subst h0
  by_cases h1:n<0
  ·have HE:Hid (dS 0 n below e=e):=by simp [Hid,dS,h1]
   have h1':decide (n<0)=true:=decide_eq_true h1
   clear h1
   go_enter Tryz.func180,Tryz.ntmps180
   go_wp2
   go_end0
   exact ⟨rfl,by rw [HE.out];exact HO.out.set 0 _,(Keep.refl _ _).put _ _⟩
  ·have h1':decide (n<0)=false:=decide_eq_false h1
   by_cases h2:below≤n
   ·have HE:Hid (dS 0 n below e=e):=by simp [Hid,dS,h2]
    have h2':decide (below≤n)=true:=decide_eq_true h2
    clear h1 h2
    go_enter Tryz.func180,Tryz.ntmps180
    go_wp2
    go_end0
    exact ⟨rfl,by rw [HE.out];exact HO.out.set 0 _,(Keep.refl _ _).put _ _⟩
   ·have HE:Hid (dS 0 n below e=0):=by unfold Hid dS;exact if_neg (by omega)
    have h2':decide (below≤n)=false:=decide_eq_false h2
    clear h1 h2
    go_enter Tryz.func180,Tryz.ntmps180
    go_wp2
    go_end0
    exact ⟨rfl,by rw [HE.out];exact HO.out,Keep.refl _ _⟩
 ·have HE:Hid (dS cur n below e=cur):=by simp [Hid,dS,h0]
  have h0':(cur==0)=false:=by simpa using h0
  clear h0
  go_enter Tryz.func180,Tryz.ntmps180
  go_wp2
  go_end0
  exact ⟨rfl,by rw [HE.out];exact HO.out,Keep.refl _ _⟩
def dQ (c:aB) (cur:Int) (l:UInt8) (n:Int):Int:=if l=114 then dS cur n c.r 5 else if l=99 then dS cur n c.c 9 else if l=115 then dS cur n 16 8 else cur
theorem Ja (c:aB) (l:UInt8) (n cur:Int) (B i O V C:Nat) (w:World) (hO:Blk w O [.int .i64 cur] 35) (hV:Blk w V [.func (.func 180) #[] #[.pointer (some ⟨O,0,none⟩)]] 218) (hC:Blk w C c.cells 23) (hn:w.cell? ⟨B,i,none⟩=some (.int .i64 n)) :
 Calls Tryz.prog 182 #[.int .u8 l.toNat,.pointer (some ⟨B,i,none⟩),.pointer (some ⟨V,0,none⟩),.pointer (some ⟨C,0,none⟩)] w fun x w'=>x = .returned (.tuple #[])∧Blk w' O [.int .i64 (dQ c cur l n)] 35∧Keep (only O) w w':=by
 have v0:=hV.cell 0 rfl
 have k3:w.cell? ⟨C,3,none⟩=some (.int .i64 c.r):=hC.cell 3 rfl
 have k4:w.cell? ⟨C,4,none⟩=some (.int .i64 c.c):=hC.cell 4 rfl
 have HO:=Lib.hid hO
 clear hO hV hC
 by_cases h1:l=114
 ·subst h1
  have HE:Hid (dQ c cur 114 n=dS cur n c.r 5):=by simp [Hid,dQ]
  rw [HE.out]
  have HW:Hid (∀ w',Blk w' O [.int .i64 cur] 35→_):=fun w' h=>uV n c.r 5 cur O w' h
  generalize dS cur n c.r 5=q at *
  generalize c.r=below at *
  go_enter Tryz.func182,Tryz.ntmps182
  go_wp2_with fail
  refine wp_region_still_tail 6 (by kernel_rfl) (by kernel_rfl) ?_
  change wpStill _ _ (World.drew _) _ _ _
  simp only [List.take_succ_cons,List.take_zero,List.drop_succ_cons,List.drop_zero]
  repeat still_step
  refine wpStill_nil ?_
  change wpList _ _ _ _ _ w.drew
  go_wp2_with (go_at_call 180;refine (HW.out _ HO.out.drew).mono ?_;rintro e w1 ⟨rfl,hb,hk⟩)
  go_end0
  exact ⟨rfl,hb,(Keep.refl _ _).drew.trans hk⟩
 by_cases h2:l=99
 ·subst h2
  have HE:Hid (dQ c cur 99 n=dS cur n c.c 9):=by simp [Hid,dQ]
  rw [HE.out]
  have HW:Hid (∀ w',Blk w' O [.int .i64 cur] 35→_):=fun w' h=>uV n c.c 9 cur O w' h
  generalize dS cur n c.c 9=q at *
  generalize c.c=below at *
  clear h1
  go_enter Tryz.func182,Tryz.ntmps182
  go_wp2_with fail
  refine wp_region_still_tail 6 (by kernel_rfl) (by kernel_rfl) ?_
  change wpStill _ _ (World.drew _) _ _ _
  simp only [List.take_succ_cons,List.take_zero,List.drop_succ_cons,List.drop_zero]
  repeat still_step
  refine wpStill_nil ?_
  change wpList _ _ _ _ _ w.drew
  go_wp2_with (go_at_call 180;refine (HW.out _ HO.out.drew).mono ?_;rintro e w1 ⟨rfl,hb,hk⟩)
  go_end0
  exact ⟨rfl,hb,(Keep.refl _ _).drew.trans hk⟩
 by_cases h3:l=115
 ·subst h3
  have HE:Hid (dQ c cur 115 n=dS cur n 16 8):=by simp [Hid,dQ]
  rw [HE.out]
  have HW:Hid (∀ w',Blk w' O [.int .i64 cur] 35→_):=fun w' h=>uV n 16 8 cur O w' h
  generalize dS cur n 16 8=q at *
  clear h1 h2 k3 k4
  go_enter Tryz.func182,Tryz.ntmps182
  go_wp2_with fail
  refine wp_region_still_tail 4 (by kernel_rfl) (by kernel_rfl) ?_
  change wpStill _ _ (World.drew _) _ _ _
  simp only [List.take_succ_cons,List.take_zero,List.drop_succ_cons,List.drop_zero]
  repeat still_step
  refine wpStill_nil ?_
  change wpList _ _ _ _ _ w.drew
  go_wp2_with (go_at_call 180;refine (HW.out _ HO.out.drew).mono ?_;rintro e w1 ⟨rfl,hb,hk⟩)
  go_end0
  exact ⟨rfl,hb,(Keep.refl _ _).drew.trans hk⟩
 have HE:Hid (dQ c cur l n=cur):=by simp [Hid,dQ,h1,h2,h3]
 rw [HE.out]
 have e1:((l.toNat:Int)==114)=false:=by
  rw [beq_eq_false_iff_ne]; intro h; exact h1 (UInt8.toNat_inj.1 (by have:l.toNat=114:=by omega
                                                                     simpa using this))
 have e2:((l.toNat:Int)==99)=false:=by
  rw [beq_eq_false_iff_ne]; intro h; exact h2 (UInt8.toNat_inj.1 (by have:l.toNat=99:=by omega
                                                                     simpa using this))
 have e3:((l.toNat:Int)==115)=false:=by
  rw [beq_eq_false_iff_ne]; intro h; exact h3 (UInt8.toNat_inj.1 (by have:l.toNat=115:=by omega
                                                                     simpa using this))
 clear h1 h2 h3 k3 k4
 generalize (l.toNat:Int)=li at *
 go_enter Tryz.func182,Tryz.ntmps182
 go_wp2_with fail
 go_end0
 exact ⟨rfl,HO.out,Keep.refl _ _⟩
theorem Jb {w:World} {s:List UInt8} {cap:Nat} {e:TypeId} {fr:Nat × Nat} {j:Nat} {l:UInt8} (h:s[j]?=some l):(w.alloc (.cells (bytesRow ⟨s.toArray⟩ cap) e fr)).cell? ⟨w.heap.size,j,none⟩=some (.int .u8 l.toNat):=by
 have hj:=(List.getElem?_eq_some_iff.1 h).1
 have e1:(w.alloc (.cells (bytesRow ⟨s.toArray⟩ cap) e fr)).heap[w.heap.size]?=some (.cells (bytesRow ⟨s.toArray⟩ cap) e fr):=by
  show (w.heap.push _)[w.heap.size]?=_
  simp
 have e2:(bytesRow ⟨s.toArray⟩ cap)[j]?=some (.int .u8 l.toNat):=by
  unfold bytesRow
  rw [Array.getElem?_append_left (by simpa using hj)]
  simp [h]
 unfold World.cell?
 simp only [e1]
 exact e2
theorem Ed (k:Int):(jK k).length≤3:=by
 unfold jK
 split
 ·rename_i h
  simp [isKind] at h
  obtain ⟨n,rfl⟩:∃ n:Nat,k=n:=⟨k.toNat,by omega⟩
  have hn:n<9:=by omega
  simp only [Int.toNat_natCast]
  have:∀ n,n<9→(mY.getD (2*n+1) []).length≤3:=by decide
  exact this n hn
 ·simp
theorem Jc (s:List UInt8) (w:World):∃ N cap W1,(convert 9 24 (.string ⟨s.toArray⟩)).run Tryz.prog w = .ok (.slice (some ⟨N,0,none⟩) s.length cap) W1∧Hid (∀ j l,s[j]?=some l→W1.cell? ⟨N,j,none⟩=some (.int .u8 l.toNat))∧Hid (Keep none_ w W1)∧Hid (w.heap.size≤N):=by
 have h:=run_bytes_of_string (P:=Tryz.prog) w 9 24 5 ⟨s.toArray⟩ (by kernel_rfl) (by kernel_rfl) (by kernel_rfl)
 have e:(⟨s.toArray⟩:ByteArray).size=s.length:=by simp [ByteArray.size]
 rw [e] at h
 exact ⟨_,_,_,h,fun j l hj=>Jb (w:=w.drew) hj,(Keep.refl _ _).drew.alloc _,Nat.le_refl _⟩
theorem OM (f:FuncId) (caps:Array Value) (S:Nat→Prop) (I:Nat→World→Prop) (B:Nat) (k:Int) (w:World) (hT:Tabs w) (hB:w.cell? ⟨B,0,none⟩=some (.int .i64 k)) (h0:I 0 w)
 (hcf:∀ (args:Array Value) (w:World),(callFunc f args).run Tryz.prog w = .ok (.enter f args) w)
 (hI:∀ j W W',I j W→Keep none_ W W'→I j W') (hS:∀ i,S i→i<w.heap.size)
 (hstep:∀ j l W,(jK k)[j]?=some l→I j W→Keep S w W→Calls Tryz.prog f (#[.int .u8 l.toNat,.pointer (some ⟨B,j+1,none⟩)]++caps) W fun x W'=>x = .returned (.tuple #[])∧I (j+1) W'∧Keep S W W') :
 Calls Tryz.prog 181 #[.pointer (some ⟨B,0,none⟩),.func (.func f) #[] caps] w fun x w'=>x = .returned (.tuple #[])∧I (jK k).length w'∧Keep S w w':=by
 obtain ⟨W0,hW0⟩:∃ W',W'=(w.alloc (.cells #[.pointer (some ⟨B,1,none⟩),.pointer (some ⟨B,2,none⟩),.pointer (some ⟨B,3,none⟩)] 241)).drew:=⟨_,rfl⟩
 have hk0:Keep none_ w W0:=by rw [hW0];exact ((Keep.refl _ _).alloc _).drew
 have hb0:Blk W0 w.heap.size [.pointer (some ⟨B,1,none⟩),.pointer (some ⟨B,2,none⟩),.pointer (some ⟨B,3,none⟩)] 241:=by rw [hW0];exact (Blk.new w _ _).drew
 obtain ⟨s,hs⟩:∃ s,s=jK k:=⟨_,rfl⟩
 have HL:Hid (s.length≤3):=by rw [hs];exact Ed k
 have HU:=Lib.hid (OL k W0 (hT.keep hk0))
 have hB0:=hk0.still hB
 rw [← hs] at HU hstep ⊢
 obtain ⟨N,cap,W1,hcv,HC,HK1,HN⟩:=Jc s W0
 have HNS:Hid (w.heap.size≤N):=Nat.le_trans hk0.size HN.out
 have HI:=Lib.hid hI
 have HS:=Lib.hid hS
 have UK:=Lib.hid hstep
 have H0:Hid (I 0 W1):=hI _ _ _ (hI _ _ _ h0 hk0) HK1.out
 have HB1:=Lib.hid (HK1.out.blk hb0 (fun f=>f))
 have SV:=Lib.hid (hk0.trans HK1.out)
 clear hT hI hS hstep h0 hs HN hk0 hb0 hB
 go_enter Tryz.func181,Tryz.ntmps181
 go_wp2_with fail
 go_region
 rw [← hW0]
 clear hW0
 go_wp2_with (go_at_call 219;refine HU.out.mono ?_;rintro e w1 ⟨rfl,rfl⟩)
 go_loopg [5,6,24] s.length (fun g i5 l6 i24 wr=>∃ j:Nat,g+j=s.length∧i24 = .int .i64 j∧Hid (I j wr)∧Hid (Keep S W1 wr))
 case atStart=>exact ⟨0,rfl,rfl,H0,Keep.refl _ _⟩
 case round =>
  obtain ⟨j,hg,rfl,HJ,HKJ⟩:=hrel
  clear H0
  by_cases hlt:j<s.length
  ·have hj3:j<3:=by have:=HL.out;omega
   have hltz:(j:Int)<s.length:=by omega
   have V7:(j:Int)<3:=by omega
   have cl:=HKJ.out.iY (HC.out j _ (List.getElem?_eq_getElem hlt)) (fun h=>absurd (HS.out _ h) (by have:=HNS.out;simp;omega))
   have cp:wr.cell? ⟨w.heap.size,j,none⟩=some (.pointer (some ⟨B,j+1,none⟩)):=by
    refine HKJ.out.iY (HB1.out.cell j ?_) (fun h=>absurd (HS.out _ h) (by simp))
    rcases (by omega:j=0∨j=1∨j=2) with rfl|rfl|rfl<;>rfl
   have UL:=Lib.hid (UK.out j _ wr (List.getElem?_eq_getElem hlt) HJ.out ((SV.out.mono (fun _ _ f=>f.elim)).trans HKJ.out))
   generalize s[j]=l at *
   clear hj3
   go_wp2_with (refine UL.out.mono ?_;rintro e w2 ⟨rfl,hj2,hk2⟩)
   have HJ2:=Lib.hid hj2
   have HK2:=Lib.hid (HKJ.out.trans hk2)
   clear hj2 hk2
   go_roundg (gk - 1)
   case measure=>omega
   case rel=>exact ⟨j+1,by omega,by go_num,HJ2,HK2⟩
  ·obtain rfl:j=s.length:=by omega
   have hge:¬ ((s.length:Int)<s.length):=by omega
   clear hg
   go_wp2_with fail
   go_end0
   exact ⟨rfl,HJ.out,(SV.out.mono (fun _ _ f=>f.elim)).trans HKJ.out⟩
def numOf (o:OpR) (j:Nat):Int:=if j=0 then o.a else if j=1 then o.b else o.c
def lV (c:aB) (o:OpR):Nat→Int
 | 0=>0
 | j+1=>dQ c (lV c o j) ((jK o.k).getD j 0) (numOf o j)
def chk (c:aB) (o:OpR):Int:=if c.ok&&isKind o.k then lV c o (jK o.k).length else 1
structure CkI (c:aB) (o:OpR) (C B O V:Nat) (j:Nat) (W:World):Prop where
 hc:Blk W C c.cells 23
 hb:Blk W B o.cells 83
 ho:Blk W O [.int .i64 (lV c o j)] 35
 hv:Blk W V [.func (.func 180) #[] #[.pointer (some ⟨O,0,none⟩)]] 218
theorem CkI.later {c:aB} {o:OpR} {C B O V j:Nat} {W W':World} (h:CkI c o C B O V j W) (k:Keep none_ W W'):CkI c o C B O V j W' :=
 ⟨k.blk h.hc (fun f=>f),k.blk h.hb (fun f=>f),k.blk h.ho (fun f=>f),k.blk h.hv (fun f=>f)⟩
theorem CkI.step {c:aB} {o:OpR} {C B O V j:Nat} {W:World} {l:UInt8} (h:CkI c o C B O V j W) (hl:(jK o.k)[j]?=some l) (hC:C≠O) (hB:B≠O) (hV:V≠O) :
 Calls Tryz.prog 182 (#[.int .u8 l.toNat,.pointer (some ⟨B,j+1,none⟩)]++#[.pointer (some ⟨V,0,none⟩),.pointer (some ⟨C,0,none⟩)]) W fun x W'=>x = .returned (.tuple #[])∧CkI c o C B O V (j+1) W'∧Keep (only O) W W':=by
 have hj3:j<3:=Nat.lt_of_lt_of_le (List.getElem?_eq_some_iff.1 hl).1 (Ed o.k)
 have hn:W.cell? ⟨B,j+1,none⟩=some (.int .i64 (numOf o j)):=by
  refine h.hb.cell (j+1) ?_
  rcases (by omega:j=0∨j=1∨j=2) with rfl|rfl|rfl<;>rfl
 refine (Ja c l (numOf o j) (lV c o j) B (j+1) O V C W h.ho h.hv h.hc hn).mono ?_
 rintro x W' ⟨rfl,hb,hk⟩
 have e:lV c o (j+1)=dQ c (lV c o j) l (numOf o j):=by
  rw [lV,List.getD_eq_getElem?_getD,hl];rfl
 exact ⟨rfl,⟨hk.blk h.hc hC,hk.blk h.hb hB,by rw [e];exact hb,hk.blk h.hv hV⟩,hk⟩
theorem check_any (c:aB) (o:OpR) (w:World) (hT:Tabs w):Calls Tryz.prog 139 #[.agg c.cells.toArray,.agg o.cells.toArray] w fun e w'=>e = .returned (.int .i64 (chk c o))∧Keep none_ w w':=by
 obtain ⟨W0,hW0⟩:∃ W',W'=(w.alloc (.cells c.cells.toArray 23)).alloc (.cells o.cells.toArray 83):=⟨_,rfl⟩
 have HC0:Hid (Blk W0 w.heap.size c.cells 23):=by rw [hW0];exact (Blk.new w _ _).alloc _
 have HO0:Hid (Blk W0 (w.heap.size+1) o.cells 83):=by rw [hW0];have h:=Blk.new (w.alloc (.cells c.cells.toArray 23)) o.cells 83;simp only [World.size_alloc] at h;exact h
 have HK0:Hid (Keep none_ w W0):=by rw [hW0];exact ((Keep.refl _ _).alloc _).alloc _
 have HT:=Lib.hid (hT.keep HK0.out)
 have HR:=Lib.hid (qP c W0 HT.out)
 have HIS:=Lib.hid (LV o.k)
 clear hT
 have k0:W0.cell? ⟨w.heap.size,0,none⟩=some (.int .i64 c.b):=HC0.out.cell 0 rfl
 have k1:W0.cell? ⟨w.heap.size,1,none⟩=some (.int .i64 c.w):=HC0.out.cell 1 rfl
 have k2:W0.cell? ⟨w.heap.size,2,none⟩=some (.int .i64 c.m):=HC0.out.cell 2 rfl
 have k3:W0.cell? ⟨w.heap.size,3,none⟩=some (.int .i64 c.r):=HC0.out.cell 3 rfl
 have k4:W0.cell? ⟨w.heap.size,4,none⟩=some (.int .i64 c.c):=HC0.out.cell 4 rfl
 have k5:W0.cell? ⟨w.heap.size,5,none⟩=some (.int .i64 c.l):=HC0.out.cell 5 rfl
 have k6:W0.cell? ⟨w.heap.size,6,none⟩=some (.int .i64 c.s):=HC0.out.cell 6 rfl
 have hcc:c.cells.toArray=#[.int .i64 c.b,.int .i64 c.w,.int .i64 c.m,.int .i64 c.r,.int .i64 c.c,.int .i64 c.l,.int .i64 c.s]:=rfl
 have hoc:o.cells.toArray=#[.int .i64 o.k,.int .i64 o.a,.int .i64 o.b,.int .i64 o.c]:=rfl
 rw [hcc,hoc] at hW0 ⊢
 rw [hcc] at HR
 clear hcc hoc
 go_enter Tryz.func139,Tryz.ntmps139
 go_wp2_with fail
 rw [← hW0]
 clear hW0 k0 k1 k2 k3 k4 k5 k6
 refine HR.out.mono ?_
 rintro e w1 ⟨rfl,hk1⟩
 have HC1:=Lib.hid (hk1.blk HC0.out (fun f=>f))
 have HO1:=Lib.hid (hk1.blk HO0.out (fun f=>f))
 have HK1:=Lib.hid (HK0.out.trans hk1)
 have HT1:=Lib.hid (HT.out.keep hk1)
 have HSZ:Hid (w.heap.size+2≤w1.heap.size):=by have h:=HO1.out.lt;unfold Hid;omega
 clear hk1 HC0 HO0 HK0 HT HR
 cases hok:c.ok with
 | false =>
   have HE:Hid (chk c o=1):=by simp [Hid,chk,hok]
   clear hok
   go_wp2_with fail
   go_ret
   exact ⟨by rw [HE.out];rfl,HK1.out⟩
 | true =>
   cases hik:isKind o.k with
   | false =>
     have HE:Hid (chk c o=1):=by simp [Hid,chk,hik]
     have d0:w1.cell? ⟨w.heap.size+1,0,none⟩=some (.int .i64 o.k):=HO1.out.cell 0 rfl
     rw [hik] at HIS
     clear hok hik
     go_wp2_with (go_at_call 179;refine (HIS.out _).mono ?_;rintro e w1 ⟨rfl,rfl⟩)
     go_ret
     exact ⟨by rw [HE.out];rfl,HK1.out⟩
   | true =>
     have HE:Hid (chk c o=lV c o (jK o.k).length):=by simp [Hid,chk,hok,hik]
     have d0:w1.cell? ⟨w.heap.size+1,0,none⟩=some (.int .i64 o.k):=HO1.out.cell 0 rfl
     rw [hik] at HIS
     clear hok hik
     have hmf:∀ (fn:Fn) (first cap:Array Value) (w:World),(Instr.makeFunc fn first cap).run Tryz.prog w = .ok (.func fn first cap) w:=fun _ _ _ _=>rfl
     obtain ⟨W2,hW2⟩:∃ W',W'=(w1.alloc (.cells #[.int .i64 0] 35)).alloc (.cells #[.func (.func 180) #[] #[.pointer (some ⟨w1.heap.size,0,none⟩)]] 218):=⟨_,rfl⟩
     have hk2:Keep none_ w1 W2:=by rw [hW2];exact ((Keep.refl _ _).alloc _).alloc _
     have hO2:Blk W2 w1.heap.size [.int .i64 0] 35:=by rw [hW2];exact (Blk.new w1 _ _).alloc _
     have hV2:Blk W2 (w1.heap.size+1) [.func (.func 180) #[] #[.pointer (some ⟨w1.heap.size,0,none⟩)]] 218:=by rw [hW2];have h:=Blk.new (w1.alloc (.cells #[.int .i64 0] 35)) [.func (.func 180) #[] #[.pointer (some ⟨w1.heap.size,0,none⟩)]] 218;simp only [World.size_alloc] at h;exact h
     have hI:CkI c o w.heap.size (w.heap.size+1) w1.heap.size (w1.heap.size+1) 0 W2:=⟨hk2.blk HC1.out (fun f=>f),hk2.blk HO1.out (fun f=>f),hO2,hV2⟩
     have hsz:=HSZ.out
     have UM:=Lib.hid (OM 182 #[.pointer (some ⟨w1.heap.size+1,0,none⟩),.pointer (some ⟨w.heap.size,0,none⟩)] (only w1.heap.size) (CkI c o w.heap.size (w.heap.size+1) w1.heap.size (w1.heap.size+1)) (w.heap.size+1) o.k W2 (HT1.out.keep hk2) (hk2.still d0) hI
      (fun args w=>by simp [callFunc,Tryz.func182,go_sem];rfl) (fun j W W' h k=>h.later k) (fun i hi=>by unfold only at hi;have:=hV2.lt;omega)
      (fun j l W hl h k=>h.step hl (by omega) (by omega) (by omega)))
     have HK2:=Lib.hid (HK1.out.trans hk2)
     clear hk2 hO2 hV2 hI hsz
     go_wp2_with (go_at_call 179;refine (HIS.out _).mono ?_;rintro e w1 ⟨rfl,rfl⟩)
     rw [← hW2]
     clear hW2
     refine UM.out.mono ?_
     rintro e w3 ⟨rfl,hI3,hk3⟩
     have c3:=hI3.ho.cell 0 rfl
     have hK:=HK2.out.trans' hk3 (fun i hi h=>absurd hi (by unfold only at h;have:=HSZ.out;omega))
     clear hI3 hk3
     go_wp2_with fail
     go_ret
     exact ⟨by rw [HE.out];rfl,hK⟩
end
end Go.Proofs.YtanfphjoebobaaaGreatDoor
