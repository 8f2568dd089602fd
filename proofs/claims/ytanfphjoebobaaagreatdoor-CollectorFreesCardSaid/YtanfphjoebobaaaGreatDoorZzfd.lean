/- Parts of the iy. No conditions. -/
import Derived.Test.YtanfphjoebobaaaGreatDoorZzfc
import Derived.Laws.CopyOwn
import Derived.Laws.EntriesVeiled
namespace Go.Proofs.YtanfphjoebobaaaGreatDoor
open _root_.Go.World renaming block_lt_of_cell?->akl,cell?_alloc_lt->akm,drew->ajr,size_alloc->ajq
open _root_.List renaming drop_succ_cons->ajt,drop_zero->ajn,getD_eq_getElem?_getD->ajg,getElem?_append_right->ajl,getElem?_eq_getElem->ajh,getElem?_eq_some_iff->ake,getElem?_set_ne->ajB,getElem?_set_self->ajA,length_cons->akn,length_nil->ako,set_append_right->akk,take_zero->ajs
open _root_.Nat renaming le_refl->aje
open _root_.Go.Proofs.Tryz hiding prog
open _root_.Go.Proofs.Tryz renaming prog->aA
set_option maxRecDepth 4000
set_option maxHeartbeats 4000000
section
open Go.RowKit
theorem dH.QK {o:Ow} {w w':World} {T:TypeId} {v:Value} {xs:List Value} {B:Nat} (h:dH o w T v xs) (k:aj (only B) w w') (ho:o B≠0):dH o w' T v xs:=h.aK k (fun b hb e=>by unfold only at e;subst e;exact ho hb)
structure Qu where
 rows:List (List Int)
 dS:Nat
structure jB (o:Ow) (w:World) (B:Nat) (q:Qu):Prop where
 own:o B≠0
 len:q.rows.length=4
 aH:∃ vs:List Value,vs.length=4/\aF w B (vs++[ah q.dS]) 172/\∀ (i:Nat) (v:Value) (zs:List Int),vs[i]?=some v->q.rows[i]?=some zs->dH o w 3 v (zs.map (Value.int .i64))
def jh (k:Int):Bool:=decide (0<=k)&&decide (k<4)
theorem aeb (k:Int) (w:World):Calls aA 198 #[ah k] w fun e w'=>e = .returned (.bool (jh k))/\w=w':=by
 go_enter func198,ntmps198
 go_wp2
 ·go_ret
  exact ⟨by simp [jh, *],rfl⟩
 ·go_ret
  have:¬ 0<=k:=by omega
  exact ⟨by simp [jh, *],rfl⟩
theorem ED {k:Int} {w:World} {p:Bool} (h:jh k=p):Calls aA 198 #[ah k] w fun e w'=>e = .returned (.bool p)/\w=w':=by
 rw [<- h];exact aeb k w
def Qu.row (q:Qu) (k:Int):List Int:=q.rows.getD k.toNat []
def Qu.len (q:Qu) (k:Int):Int:=if jh k then (q.row k).length else 0
theorem jB.ni {o:Ow} {w B q} (h:jB o w B q) {k:Int} (hk:jh k=true):∃ a n c,w.cell? ⟨B,k.toNat,none⟩=some (.slice a n c)/\dH o w 3 (.slice a n c) ((q.row k).map (Value.int .i64))/\n=(q.row k).length:=by
 obtain ⟨ho,hl,vs,hv,hb,hr⟩:=h
 have hk':k.toNat<4:=by simp [jh] at hk;omega
 have h1:vs[k.toNat]?=some (vs[k.toNat]'(by omega)):=ajh _
 have h2:q.rows[k.toNat]?=some (q.row k):=by
  rw [Qu.row,ajg,ajh (by omega)];rfl
 have hrow:=hr _ _ _ h1 h2
 obtain ⟨a,c,e,h3⟩:=id hrow
 refine ⟨a,_,c,?_,e▸hrow,by simp⟩
 rw [<- e]
 refine hb.cell _ ?_
 rw [List.getElem?_append_left (by omega)];exact h1
theorem abA {o:Ow} (B:Nat) (q:Qu) (k:Int) (w:World) (h:jB o w B q):Calls aA 304 #[au B,ah k] w fun e w'=>e = .returned (ah (q.len k))/\w=w':=by
 cases hk:jh k with
 | false =>
   have HE:Hid (q.len k=0):=by simp [Hid,Qu.len,hk]
   go_enter func304,ntmps304
   go_wp2_with (go_at_call 198;refine (ED hk).mono ?_;rintro e w' ⟨rfl,rfl⟩)
   go_ret
   rw [HE.out]
   exact ⟨rfl,rfl⟩
 | true =>
   obtain ⟨a,n,c,hc,hr,hn⟩:=h.ni hk
   have HE:Hid (q.len k=n):=by simp [Hid,Qu.len,hk,hn]
   have h0:0<=k:=by simp [jh] at hk;omega
   have h4:k<4:=by simp [jh] at hk;omega
   clear hr hn
   go_enter func304,ntmps304
   go_wp2_with (go_at_call 198;refine (ED hk).mono ?_;rintro e w' ⟨rfl,rfl⟩)
   go_ret
   rw [HE.out]
   exact ⟨rfl,rfl⟩
theorem jB.Xp {o:Ow} {w B q} (h:jB o w B q):w.cell? ⟨B,4,none⟩=some (ah q.dS):=by
 obtain ⟨ho,hl,vs,hv,hb,hr⟩:=h
 refine hb.cell _ ?_
 rw [ajl (by omega),hv];rfl
theorem jB.free {o:Ow} {w B q} (h:jB o w B q) (i:Nat):w.frozen? ⟨B,i,none⟩=false:=by
 obtain ⟨ho,hl,vs,hv,hb,hr⟩:=h
 exact hb.free i
theorem Zl {o:Ow} (B:Nat) (q:Qu) (w:World) (h:jB o w B q):Calls aA 303 #[au B] w fun e w'=>e = .returned (ah q.dS)/\w=w':=by
 have hc:=h.Xp
 clear h
 go_enter func303,ntmps303
 go_wp2
 go_ret
 exact ⟨rfl,rfl⟩
def Qu.GV (q:Qu) (n:Nat):Qu:={ q with dS:=n }
theorem jB.GV {o:Ow} {w B q} (h:jB o w B q) (n:Nat):jB o (w.setCell ⟨B,4,none⟩ (ah n)) B (q.GV n):=by
 obtain ⟨ho,hl,vs,hv,hb,hr⟩:=h
 refine ⟨ho,hl,vs,hv,?_,fun i v zs h1 h2=>(hr i v zs h1 h2).QK ((aj.refl (only B) _).put _ _) ho⟩
 have:=hb.set 4 (ah n)
 rw [akk _ _ (by omega),hv] at this
 exact this
def Qu.KO (q:Qu):Int:=if q.dS=0 then 11 else 0
def Qu.wO (q:Qu):Qu:=q.GV (q.dS - 1)
theorem Zm {o:Ow} (B:Nat) (q:Qu) (w:World) (h:jB o w B q) (hm:q.dS<=1000000000):Calls aA 279 #[au B] w fun e w'=>e = .returned (ah q.KO)/\jB o w' B q.wO/\aj (only B) w w':=by
 have hc:=h.Xp
 have hf:=h.free 4
 by_cases h0:q.dS=0
 ·have HE:Hid (q.KO=11/\q.wO=q):=by
   refine ⟨by simp [Qu.KO,h0],?_⟩
   obtain ⟨r,o⟩:=q
   simp at h0;subst h0;rfl
  rw [h0] at hc
  clear h0
  go_enter func279,ntmps279
  go_wp2
  go_ret
  rw [HE.out.1,HE.out.2]
  exact ⟨rfl,h,aj.refl _ _⟩
 ·have HE:Hid (q.KO=0):=by simp [Hid,Qu.KO,h0]
  have hne:((q.dS:Int)==0)=false:=by simp;omega
  have h1:(1:Int)<=q.dS:=by omega
  have hs:=h.GV (q.dS - 1)
  have e:((q.dS - 1:Nat):Int)=(q.dS:Int) - 1:=by omega
  rw [e] at hs
  have HS:=ay hs
  clear hs e h0
  go_enter func279,ntmps279
  go_wp2
  go_ret
  rw [HE.out]
  exact ⟨rfl,HS.out,(aj.refl (only B) _).put _ _⟩
def Qu.put (q:Qu) (k b:Int):Qu:={ q with rows:=q.rows.set k.toNat (q.row k++[b]) }
def QL (k b:Int):Bool:=jh k&&decide (0<=b)
theorem jB.setRow {o:Ow} {w B q} (h:jB o w B q) {k:Int} (hk:jh k=true) {v:Value} {zs:List Int} (hv:dH o w 3 v (zs.map (Value.int .i64))) :
 jB o (w.setCell ⟨B,k.toNat,none⟩ v) B { q with rows:=q.rows.set k.toNat zs }:=by
 obtain ⟨ho,hl,vs,hvl,hb,hr⟩:=h
 have hk':k.toNat<4:=by simp [jh] at hk;omega
 have hkeep:∀ u,aj (only B) w (w.setCell ⟨B,k.toNat,none⟩ u):=fun u=>(aj.refl (only B) _).put _ _
 refine ⟨ho,by simpa using hl,vs.set k.toNat v,by simpa using hvl,?_,fun i u zs' h1 h2=>?_⟩
 ·have:=hb.set k.toNat v
  rw [List.set_append_left _ _ (by omega)] at this
  exact this
 ·by_cases e:k.toNat=i
  ·subst e
   rw [ajA (by omega)] at h1 h2
   simp at h1 h2
   subst h1 h2
   exact hv.QK (hkeep _) ho
  ·rw [ajB e] at h1 h2
   exact (hr i u zs' h1 h2).QK (hkeep _) ho
theorem jB.still {o:Ow} {w w' B q} (h:jB o w B q) (k:aj aB w w'):jB o w' B q:=by
 obtain ⟨ho,hl,vs,hv,hb,hr⟩:=h
 exact ⟨ho,hl,vs,hv,k.aH hb (fun f=>f),fun i v zs h1 h2=>(hr i v zs h1 h2).still k⟩
theorem Tryz.sizeInt:(aA.info? 3).map (·.size)=some 1:=by kernel_rfl
theorem abB {o:Ow} (B:Nat) (q:Qu) (k b:Int) (w:World) (h:jB o w B q) (hok:QL k b=true) (hm:(q.row k).length<=1000000000) (hf0:kJ o w) :
 Calls aA 294 #[au B,ah k,ah b] w fun e w'=>e = .returned (ah 0)/\jB o w' B (q.put k b)/\aj (only B) w w':=by
 have hk:jh k=true:=by simp [QL] at hok;exact hok.1
 have hb0:¬ b<0:=by simp [QL] at hok;omega
 obtain ⟨a,n,c,hc,hr,hn⟩:=h.ni hk
 have h0:0<=k:=by simp [jh] at hk;omega
 have h4:k<4:=by simp [jh] at hk;omega
 have hmk:=yD (P:=aA) Tryz.underlying32 Tryz.infoInt rfl (by decide) (n+1) (by omega) ((n:Int)+1) (by omega)
 have hlt:B<w.heap.size:=akl _ _ hc
 have hc1:∀ o,(w.alloc o).cell? ⟨B,k.toNat,none⟩=some (.slice a n c):=fun o=>by rw [akm _ _ _ hlt];exact hc
 have hn1:n<=1000000000:=by omega
 have hxs:((q.row k).map (Value.int .i64)).length=n:=by simp [hn]
 have HX:=ay hxs
 have HL:=ay (show (q.row k).length=n from hn.symm)
 have HR:=ay hr.toV.cells
 have HN:=ay hn
 have HC3:Hid (0<((q.row k).map (Value.int .i64)).length->∃ ad,a=some ad/\∀ (j:Nat) (v:Value),((q.row k).map (Value.int .i64))[j]?=some v->(w.alloc (.cells (fV (ah 0) (n+1)).toArray 3)).cell? (ad.add j)=some v):=by
  intro h0
  rw [HX.out] at h0
  obtain ⟨b',off',rfl,hcs⟩:=HR.out.2.2.2 h0
  refine ⟨_,rfl,fun j v hj=>?_⟩
  have hcj:=hcs j v hj
  have ea:(⟨b',off',none⟩:Addr).add j=⟨b',off'+j,none⟩:=by simp only [Addr.add];split<;>simp_all
  rw [ea,akm _ _ _ (akl _ _ hcj)]
  exact hcj
 have HF0:=ay hf0
 clear hr hn hok hxs hf0
 go_enter func294,ntmps294
 go_wp2_with first|(go_at_call 198;refine (ED hk).mono ?_;rintro e w' ⟨rfl,rfl⟩)|(refine wpList_copy_splice rfl (.tmp 29) (.tmp 35) 32 32 rfl 3 Tryz.underlying32 Tryz.sizeInt _ _ (n+1) (n+1) n c rfl rfl w.heap.size 0 (fV (ah 0) (n+1)) 3 ?c1 ((q.row k).map (Value.int .i64)) ?c2 (fun h0=>⟨rfl,HC3.out h0⟩) ?c4 ?c5 w.heap.size w ?c6 ?c7 ?_)
 case c1=>exact aF.bC w (fV (ah 0) (n+1)) 3
 case c2=>rw [HX.out];simp
 case c4=>rw [HX.out,Zh];omega
 case c5=>simp;exact fun _ _=>rfl
 case c6=>exact (Below.refl _ _).alloc (aje _) _
 case c7=>exact aje _
 intro w2 hg2 hb2
 have hg3:aF w2 w.heap.size ((q.row k).map (Value.int .i64)++[ah 0]) 3:=by
  have:=hg2.out
  unfold aF
  rw [this]
  congr 3
  simp only [splice,ajs,List.nil_append,Nat.zero_add]
  rw [HX.out]
  simp [fV]
 clear hg2
 rw [HL.out]
 have hkp2:aj aB w w2:=aj.VQ hb2 aB
 have hkp3:=hkp2.iP (B:=w.heap.size) (aje _) n (ah b)
 have hg4:aF (w2.setCell ⟨w.heap.size,n,none⟩ (ah b)) w.heap.size ((q.row k++[b]).map (Value.int .i64)) 3:=by
  have:=hg3.set n (ah b)
  rw [akk _ _ (by rw [HX.out];exact aje _),HX.out] at this
  simpa using this
 have hQ:=(h.still hkp3).setRow hk (dH.ahh hg4 (HF0.out _ (aje _)) (n:=n+1) (by simp [HL.out]) (by omega))
 have HQ:=ay hQ
 have e0:w2.cell? ⟨w.heap.size,n,none⟩=some (ah 0):=hg3.cell n (by rw [ajl (by rw [HX.out];exact aje _),HX.out];simp)
 have f0:=hg3.free n
 have e1:(w2.setCell ⟨w.heap.size,n,none⟩ (ah b)).cell? ⟨B,k.toNat,none⟩=some (.slice a n c):=hkp3.still hc
 have f1:w2.frozen? ⟨B,k.toNat,none⟩=false:=by rw [hkp2.QW hlt (fun f=>f)];exact h.free _
 have hkf:aj (only B) w (w2.setCell ⟨w.heap.size,n,none⟩ (ah b)):=hkp3.mono (fun _ _ f=>f.elim)
 clear hg3 hg4 hQ hb2 hc1 hmk hkp2 hkp3
 go_wp2_with fail
 go_ret
 refine ⟨rfl,HQ.out,hkf.put _ _⟩
theorem jB.drew {o:Ow} {w B q} (h:jB o w B q):jB o w.drew B q:=⟨h.own,h.len,h.aH⟩
def Qu.take (q:Qu) (k:Int):Qu:={ rows:=q.rows.set k.toNat ((q.row k).drop 1),dS:=q.dS+1 }
theorem Jf {o:Ow} (B:Nat) (q:Qu) (k:Int) (w:World) (hq:jB o w B q) (h:jh k=true) (h0:q.row k=[]):Calls aA 265 #[au B,ah k] w fun e w'=>e = .returned (.tuple #[ah 0,ah 12])/\w=w':=by
 obtain ⟨a,n,c,hc,hr,hn⟩:=hq.ni h
 have hk0:0<=k:=by simp [jh] at h;omega
 have hk4:k<4:=by simp [jh] at h;omega
 rw [h0] at hn
 simp at hn
 rw [hn] at hc
 clear hr hn h0
 go_enter func265,ntmps265
 go_wp2_with (go_at_call 198;refine (ED h).mono ?_;rintro e w' ⟨rfl,rfl⟩)
 go_ret2
 exact ⟨rfl,rfl⟩
theorem Zn {o:Ow} (B:Nat) (q:Qu) (k x:Int) (xs:List Int) (w:World) (hq:jB o w B q) (h:jh k=true) (h0:q.row k=x::xs) (hm:q.dS<=1000000000) :
 Calls aA 265 #[au B,ah k] w fun e w'=>e = .returned (.tuple #[ah x,ah 0])/\jB o w' B (q.take k)/\aj (only B) w w':=by
 obtain ⟨a,n,c,hc,hr,hn⟩:=hq.ni h
 have hk0:0<=k:=by simp [jh] at h;omega
 have hk4:k<4:=by simp [jh] at h;omega
 have hcut:=hr.cut 1 (by rw [hn,h0];simp)
 have hQ:=hq.setRow (zs:=(q.row k).drop 1) h (by rw [List.map_drop];exact hcut)
 have hQ2:=hQ.GV (q.dS+1)
 have e9:((q.dS+1:Nat):Int)=(q.dS:Int)+1:=by omega
 rw [e9] at hQ2
 have hop:∀ v,(w.setCell ⟨B,k.toNat,none⟩ v).cell? ⟨B,4,none⟩=some (ah q.dS):=fun v=>by
  rw [World.cell?_setCell_other]
  ·exact hq.Xp
  ·intro e
   injection e with _ e2
   omega
 obtain ⟨-,-,-,hcell⟩:=hr.toV.cells
 rw [h0] at hn hcell
 simp only [akn] at hn
 obtain ⟨b',off',rfl,hx⟩:=hcell (by omega)
 have hx0:=hx 0 (ah x) rfl
 rw [Nat.add_zero] at hx0
 have hne:((n:Int)==0)=false:=by simp;omega
 have hpos:(0:Int)<n:=by omega
 have hf:=hq.free k.toNat
 have hf4:=hq.free 4
 have HQ:=ay hQ2
 have hn9:(n:Int)<=4000000000000:=by
  have:=hr.toV.cells.2.1;have:=hr.toV.cells.2.2.1;omega
 clear hcell hx hn h0 hQ hQ2 hr hcut e9
 by_cases hc1:c=1
 ·subst hc1
  have e:vw (some ⟨b',off',none⟩) 1 1=some ⟨b',off',none⟩:=rfl
  rw [e] at HQ
  go_enter func265,ntmps265
  go_wp2_with (go_at_call 198;refine (ED h).mono ?_;rintro e w' ⟨rfl,rfl⟩)
  go_region
  all_goals
   go_wp2_with fail
   go_ret2
   exact ⟨rfl,HQ.out.drew,(((aj.refl (only B) _).put _ _).put _ _).drew⟩
 ·have e:vw (some ⟨b',off',none⟩) c 1=some ⟨b',off'+1,none⟩:=by simp [vw,hc1,Addr.add]
  rw [e] at HQ
  clear e
  go_enter func265,ntmps265
  go_wp2_with (go_at_call 198;refine (ED h).mono ?_;rintro e w' ⟨rfl,rfl⟩)
  go_region
  all_goals
   go_wp2_with fail
   go_ret2
   exact ⟨rfl,HQ.out.drew,(((aj.refl (only B) _).put _ _).put _ _).drew⟩
def Qu.sum (q:Qu):Nat->Nat
 | 0=>q.dS
 | k+1=>q.sum k+(q.rows.getD k []).length
def Qu.jR (q:Qu):Bool:=q.sum 4==0
theorem Qu.afn (q:Qu) (k:Nat) (h:k<4):q.len (k:Int)=(q.rows.getD k []).length:=by
 have hc:jh (k:Int)=true:=by simp [jh];omega
 simp [Qu.len,hc,Qu.row]
theorem aec {o:Ow} {B:Nat} {q:Qu} {k:Int} {w:World} {n:Int} (h:jB o w B q) (hn:q.len k=n):Calls aA 304 #[au B,ah k] w fun e w'=>e = .returned (ah n)/\w=w':=by
 rw [<- hn];exact abA B q k w h
def Qu.lU (q:Qu):Prop:=q.dS<=1000000000/\∀ k,(q.rows.getD k []).length<=1000000000
theorem Qu.afo (q:Qu) (h:q.lU) (k:Nat):q.sum k<=1000000000*(k+1):=by
 induction k with
 | zero=>have:=h.1;simp [Qu.sum];exact this
 | succ k ih=>have:=h.2 k;simp only [Qu.sum];omega
theorem Xq {o:Ow} (B:Nat) (q:Qu) (w:World) (h:jB o w B q) (hs:q.lU):Calls aA 299 #[au B] w fun e w'=>e = .returned (.bool q.jR)/\w=w':=by
 have HL:=ay q.afn
 have HS:=ay (q.afo hs)
 have h2:=ay hs.2
 have h0:(q.dS:Int)=(q.sum 0:Nat):=rfl
 have H0:=ay h0
 clear hs h0
 go_enter func299,ntmps299
 go_wp2_with (go_at_call 303;refine (Zl _ _ _ h).mono ?_;rintro e w' ⟨rfl,rfl⟩)
 go_loop [3,7] (fun n i=>∃ k:Nat,k<=4/\i = ah k/\n = ah (q.sum k)) (fun _ i=>4 - (intOf i).toNat)
 case atStart=>exact ⟨0,by omega,rfl,by rw [H0.out]⟩
 case round =>
  obtain ⟨k,hk,rfl,rfl⟩:=hrel
  by_cases hlt:k<4
  ·have b1:=HS.out k
   have b2:=h2.out k
   have e:((q.sum (k+1):Nat):Int)=(q.sum k:Int)+((q.rows.getD k []).length:Nat):=by simp only [Qu.sum];omega
   have HE:=ay e
   have HK:=ay (HL.out k hlt)
   clear e
   generalize (q.rows.getD k []).length=m at *
   generalize q.sum k=s at *
   go_wp2_with (go_at_call 304;refine (aec h HK.out).mono ?_;rintro e w' ⟨rfl,rfl⟩)
   go_round
   case rel=>exact ⟨k+1,by omega,by go_num,by rw [HE.out]⟩
   case measure=>simp [intOf];omega
  ·obtain rfl:k=4:=by omega
   have HR:Hid (q.jR=((q.sum 4:Int)==0)):=by
    rw [Hid,Qu.jR,Bool.eq_iff_iff];simp
   go_wp2_with fail
   go_ret
   rw [HR.out]
   exact ⟨rfl,rfl⟩
def Qu.rw (q:Qu) (k:Nat):List Int:=q.rows.getD k []
theorem Qu.KP (q:Qu) (k:Nat):q.row (k:Int)=q.rw k:=by simp [Qu.row,Qu.rw]
theorem Rj (k:Nat) (h:k<4):jh (k:Int)=true:=by simp [jh];omega
theorem Zo {o:Ow} (B:Nat) (q:Qu) (w:World) (h:jB o w B q) (hn:∀ k,k<4->q.rw k=[]):Calls aA 296 #[au B] w fun e w'=>e = .returned (.tuple #[ah 0,ah 0,ah 12])/\w=w':=by
 have key:∀ k:Nat,k<4->∀ wx,wx=w->Calls aA 265 #[au B,ah k] wx fun e w'=>e = .returned (.tuple #[ah 0,ah 12])/\wx=w' :=
  fun k hk wx e=>by subst e;exact Jf B q k wx h (Rj k hk) (by rw [q.KP];exact hn k hk)
 have KEY:=ay key
 clear key hn h
 go_enter func296,ntmps296
 go_wp2_with fail
 go_step3
 go_wp2_with fail
 go_step3
 go_wp2_with fail
 go_loopg [5,6,7,8] 4 (fun g b k e i wr=>∃ j:Nat,g+j=4/\i = ah j/\e = ah 12/\wr=w)
 case atStart=>exact ⟨0,rfl,rfl,rfl,rfl⟩
 case round =>
  obtain ⟨j,hj,rfl,rfl,rfl⟩:=hrel
  by_cases hlt:j<4
  ·go_wp2_with (go_at_call 265;refine (KEY.out j hlt _ rfl).mono ?_;rintro e w' ⟨rfl,rfl⟩)
   go_roundg (gk - 1)
   case measure=>omega
   case rel=>exact ⟨j+1,by omega,by go_num,rfl,rfl⟩
  ·go_wp2_with fail
   try rw [Exit.noGoto_ret]
   go_ret3
   exact ⟨rfl,rfl⟩
theorem abC {o:Ow} (B:Nat) (q:Qu) (m:Nat) (x:Int) (xs:List Int) (w:World) (h:jB o w B q) (hm:m<4) (hn:∀ k,k<m->q.rw k=[]) (hx:q.rw m=x::xs) (ho:q.dS<=1000000000) :
 Calls aA 296 #[au B] w fun e w'=>e = .returned (.tuple #[ah x,ah m,ah 0])/\jB o w' B (q.take m)/\aj (only B) w w':=by
 have key:∀ k:Nat,k<m->∀ wx,wx=w->Calls aA 265 #[au B,ah k] wx fun e w'=>e = .returned (.tuple #[ah 0,ah 12])/\wx=w' :=
  fun k hk wx e=>by subst e;exact Jf B q k wx h (Rj k (by omega)) (by rw [q.KP];exact hn k hk)
 have KEY:=ay key
 have KX:=ay (Zn B q m x xs w h (Rj m hm) (by rw [q.KP];exact hx) ho)
 clear key hn h hx
 go_enter func296,ntmps296
 go_wp2_with fail
 go_step3
 go_wp2_with fail
 go_step3
 go_wp2_with fail
 go_loopg [5,6,7,8] 4 (fun g b k e i wr=>∃ j:Nat,g+j=4/\j<=m/\i = ah j/\e = ah 12/\wr=w)
 case atStart=>exact ⟨0,rfl,by omega,rfl,rfl,rfl⟩
 case round =>
  obtain ⟨j,hj,hjm,rfl,rfl,rfl⟩:=hrel
  by_cases hlt:j<m
  ·go_wp2_with (go_at_call 265;refine (KEY.out j hlt _ rfl).mono ?_;rintro e w' ⟨rfl,rfl⟩)
   go_roundg (gk - 1)
   case measure=>omega
   case rel=>exact ⟨j+1,by omega,by omega,by go_num,rfl,rfl⟩
  ·obtain rfl:j=m:=by omega
   go_wp2_with (go_at_call 265;refine KX.out.mono ?_;rintro e w' ⟨rfl,hq2,hk2⟩)
   try rw [Exit.noGoto_ret]
   go_ret3
   exact ⟨rfl,hq2,hk2⟩
end
section
open Go.RowKit Go.Sort
structure jy where
 k:Int
 a:Int
 b:Int
 c:Int
deriving DecidableEq
def jy.cells (o:jy):List Value:=[ah o.k,ah o.a,ah o.b,ah o.c]
def vX (k:Int):Bool:=decide (1<=k)&&decide (k<9)
def su (k:Int):List UInt8:=if vX k then zM.getD (2*k.toNat+1) [] else []
theorem Zp (k:Int) (w:World):Calls aA 179 #[ah k] w fun e w'=>e = .returned (.bool (vX k))/\w'=w:=by
 by_cases h:1<=k
 ·have h1:decide (1<=k)=true:=fK h
  clear h
  go_enter func179,ntmps179
  go_wp2
  go_ret
  exact ⟨by simp [vX,h1],rfl⟩
 ·have h1:decide (1<=k)=false:=gJ h
  clear h
  go_enter func179,ntmps179
  go_wp2
  go_ret
  exact ⟨by simp [vX,h1],rfl⟩
theorem abD (k:Int) (w:World) (hT:lu w):Calls aA 219 #[ah k] w fun e w'=>e = .returned (.string ⟨(su k).toArray⟩)/\w'=w:=by
 have HIS:=ay (Zp k)
 cases hk:vX k with
 | false =>
   have HE:Hid (su k=[]):=by simp [Hid,su,hk]
   rw [hk] at HIS
   clear hk hT
   go_enter func219,ntmps219
   go_wp2_with (go_at_call 179;refine (HIS.out _).mono ?_;rintro e w1 ⟨rfl,rfl⟩)
   go_ret
   exact ⟨by rw [HE.out];rfl,rfl⟩
 | true =>
   have hk':=hk
   simp [vX] at hk'
   obtain ⟨n,rfl⟩:∃ n:Nat,k=n:=⟨k.toNat,by omega⟩
   have hlt:2*n+1<zM.length:=by simp [zM];omega
   have hc:=hT.kind (2*n+1) _ (ajh hlt)
   have HE:Hid (su (n:Int)=zM[2*n+1]):=by
    simp only [Hid,su,hk,if_true]
    simp [hlt]
   rw [HE.out]
   generalize zM[2*n+1]=s at *
   have hc2:w.cell? ⟨4,n*2+1,none⟩=some (.string ⟨s.toArray⟩):=by rw [Nat.mul_comm];exact hc
   rw [hk] at HIS
   clear hk hT HE hc
   have hn:(n:Int)<9:=by omega
   have hn2:n<9:=by omega
   clear hk'
   go_enter func219,ntmps219
   go_wp2_with (go_at_call 179;refine (HIS.out _).mono ?_;rintro e w1 ⟨rfl,rfl⟩)
   go_ret
   exact ⟨rfl,rfl⟩
def jq (cur n below e:Int):Int:=if cur=0/\(n<0\/below<=n) then e else cur
theorem GX (n below e cur:Int) (O:Nat) (w:World) (hO:aF w O [ah cur] 35) :
 Calls aA 180 #[ah n,ah below,ah e,au O] w fun x w'=>x = .returned (.tuple #[])/\aF w' O [ah (jq cur n below e)] 35/\aj (only O) w w':=by
 have c0:=hO.cell 0 rfl
 have f0:=hO.free 0
 have HO:=ay hO
 clear hO
 by_cases h0:cur=0
 ·subst h0
  by_cases h1:n<0
  ·have HE:Hid (jq 0 n below e=e):=by simp [Hid,jq,h1]
   have h1':decide (n<0)=true:=fK h1
   clear h1
   go_enter func180,ntmps180
   go_wp2
   go_end0
   exact ⟨rfl,by rw [HE.out];exact HO.out.set 0 _,(aj.refl _ _).put _ _⟩
  ·have h1':decide (n<0)=false:=gJ h1
   by_cases h2:below<=n
   ·have HE:Hid (jq 0 n below e=e):=by simp [Hid,jq,h2]
    have h2':decide (below<=n)=true:=fK h2
    clear h1 h2
    go_enter func180,ntmps180
    go_wp2
    go_end0
    exact ⟨rfl,by rw [HE.out];exact HO.out.set 0 _,(aj.refl _ _).put _ _⟩
   ·have HE:Hid (jq 0 n below e=0):=by unfold Hid jq;exact aT (by omega)
    have h2':decide (below<=n)=false:=gJ h2
    clear h1 h2
    go_enter func180,ntmps180
    go_wp2
    go_end0
    exact ⟨rfl,by rw [HE.out];exact HO.out,aj.refl _ _⟩
 ·have HE:Hid (jq cur n below e=cur):=by simp [Hid,jq,h0]
  have h0':(cur==0)=false:=by simpa using h0
  clear h0
  go_enter func180,ntmps180
  go_wp2
  go_end0
  exact ⟨rfl,by rw [HE.out];exact HO.out,aj.refl _ _⟩
def jm (c:bK) (cur:Int) (l:UInt8) (n:Int):Int:=if l=114 then jq cur n c.r 5 else if l=99 then jq cur n c.c 9 else if l=115 then jq cur n 16 8 else cur
theorem Xr (c:bK) (l:UInt8) (n cur:Int) (B i O V C:Nat) (w:World) (hO:aF w O [ah cur] 35) (hV:aF w V [.func (.func 180) #[] #[au O]] 218) (hC:aF w C c.cells 23) (hn:w.cell? ⟨B,i,none⟩=some (ah n)) :
 Calls aA 182 #[.int .u8 l.toNat,.pointer (some ⟨B,i,none⟩),au V,au C] w fun x w'=>x = .returned (.tuple #[])/\aF w' O [ah (jm c cur l n)] 35/\aj (only O) w w':=by
 have v0:=hV.cell 0 rfl
 have k3:w.cell? ⟨C,3,none⟩=some (ah c.r):=hC.cell 3 rfl
 have k4:w.cell? ⟨C,4,none⟩=some (ah c.c):=hC.cell 4 rfl
 have HO:=ay hO
 clear hO hV hC
 by_cases h1:l=114
 ·subst h1
  have HE:Hid (jm c cur 114 n=jq cur n c.r 5):=by simp [Hid,jm]
  rw [HE.out]
  have HW:Hid (∀ w',aF w' O [ah cur] 35->_):=fun w' h=>GX n c.r 5 cur O w' h
  generalize jq cur n c.r 5=q at *
  generalize c.r=below at *
  go_enter func182,ntmps182
  go_wp2_with fail
  refine wp_region_still_tail 6 (by kernel_rfl) (by kernel_rfl) ?_
  change wpStill _ _ (ajr _) _ _ _
  simp only [List.take_succ_cons,ajs,ajt,ajn]
  repeat still_step
  refine wpStill_nil ?_
  change wpList _ _ _ _ _ w.drew
  go_wp2_with (go_at_call 180;refine (HW.out _ HO.out.drew).mono ?_;rintro e w1 ⟨rfl,hb,hk⟩)
  go_end0
  exact ⟨rfl,hb,(aj.refl _ _).drew.trans hk⟩
 by_cases h2:l=99
 ·subst h2
  have HE:Hid (jm c cur 99 n=jq cur n c.c 9):=by simp [Hid,jm]
  rw [HE.out]
  have HW:Hid (∀ w',aF w' O [ah cur] 35->_):=fun w' h=>GX n c.c 9 cur O w' h
  generalize jq cur n c.c 9=q at *
  generalize c.c=below at *
  clear h1
  go_enter func182,ntmps182
  go_wp2_with fail
  refine wp_region_still_tail 6 (by kernel_rfl) (by kernel_rfl) ?_
  change wpStill _ _ (ajr _) _ _ _
  simp only [List.take_succ_cons,ajs,ajt,ajn]
  repeat still_step
  refine wpStill_nil ?_
  change wpList _ _ _ _ _ w.drew
  go_wp2_with (go_at_call 180;refine (HW.out _ HO.out.drew).mono ?_;rintro e w1 ⟨rfl,hb,hk⟩)
  go_end0
  exact ⟨rfl,hb,(aj.refl _ _).drew.trans hk⟩
 by_cases h3:l=115
 ·subst h3
  have HE:Hid (jm c cur 115 n=jq cur n 16 8):=by simp [Hid,jm]
  rw [HE.out]
  have HW:Hid (∀ w',aF w' O [ah cur] 35->_):=fun w' h=>GX n 16 8 cur O w' h
  generalize jq cur n 16 8=q at *
  clear h1 h2 k3 k4
  go_enter func182,ntmps182
  go_wp2_with fail
  refine wp_region_still_tail 4 (by kernel_rfl) (by kernel_rfl) ?_
  change wpStill _ _ (ajr _) _ _ _
  simp only [List.take_succ_cons,ajs,ajt,ajn]
  repeat still_step
  refine wpStill_nil ?_
  change wpList _ _ _ _ _ w.drew
  go_wp2_with (go_at_call 180;refine (HW.out _ HO.out.drew).mono ?_;rintro e w1 ⟨rfl,hb,hk⟩)
  go_end0
  exact ⟨rfl,hb,(aj.refl _ _).drew.trans hk⟩
 have HE:Hid (jm c cur l n=cur):=by simp [Hid,jm,h1,h2,h3]
 rw [HE.out]
 have e1:((l.toNat:Int)==114)=false:=by
  rw [beq_eq_false_iff_ne]; intro h; exact h1 (UInt8.toNat_inj.1 (by have:l.toNat=114:=by omega
                                                                     simpa using this))
 have e2:((l.toNat:Int)==99)=false:=by
  rw [beq_eq_false_iff_ne]; intro h; exact h2 (UInt8.toNat_inj.1 (by have:l.toNat=99:=by omega
                                                                     simpa using this))
 have e3:((l.toNat:Int)==115)=false:=by
  rw [beq_eq_false_iff_ne]; intro h; exact h3 (UInt8.toNat_inj.1 (by have:l.toNat=115:=by omega
                                                                     simpa using this))
 clear h1 h2 h3 k3 k4
 generalize (l.toNat:Int)=li at *
 go_enter func182,ntmps182
 go_wp2_with fail
 go_end0
 exact ⟨rfl,HO.out,aj.refl _ _⟩
theorem Xt {w:World} {s:List UInt8} {aO:Nat} {e:TypeId} {fr:Nat × Nat} {j:Nat} {l:UInt8} (h:s[j]?=some l):(w.alloc (.cells (bytesRow ⟨s.toArray⟩ aO) e fr)).cell? ⟨w.heap.size,j,none⟩=some (.int .u8 l.toNat):=by
 have hj:=(ake.1 h).1
 have e1:(w.alloc (.cells (bytesRow ⟨s.toArray⟩ aO) e fr)).heap[w.heap.size]?=some (.cells (bytesRow ⟨s.toArray⟩ aO) e fr):=by
  show (w.heap.push _)[w.heap.size]?=_
  simp
 have e2:(bytesRow ⟨s.toArray⟩ aO)[j]?=some (.int .u8 l.toNat):=by
  unfold bytesRow
  rw [Array.getElem?_append_left (by simpa using hj)]
  simp [h]
 unfold World.cell?
 simp only [e1]
 exact e2
theorem Rk (k:Int):(su k).length<=3:=by
 unfold su
 split
 ·rename_i h
  simp [vX] at h
  obtain ⟨n,rfl⟩:∃ n:Nat,k=n:=⟨k.toNat,by omega⟩
  have hn:n<9:=by omega
  simp only [Int.toNat_natCast]
  have:∀ n,n<9->(zM.getD (2*n+1) []).length<=3:=by decide
  exact this n hn
 ·simp
theorem Xu (s:List UInt8) (w:World):∃ N aO W1,(convert 9 24 (.string ⟨s.toArray⟩)).run aA w = .ok (.slice (some ⟨N,0,none⟩) s.length aO) W1/\Hid (∀ j l,s[j]?=some l->W1.cell? ⟨N,j,none⟩=some (.int .u8 l.toNat))/\Hid (aj aB w W1)/\Hid (w.heap.size<=N):=by
 have h:=run_bytes_of_string (P:=aA) w 9 24 5 ⟨s.toArray⟩ (by kernel_rfl) (by kernel_rfl) (by kernel_rfl)
 have e:(⟨s.toArray⟩:ByteArray).size=s.length:=by simp [ByteArray.size]
 rw [e] at h
 exact ⟨_,_,_,h,fun j l hj=>Xt (w:=w.drew) hj,(aj.refl _ _).drew.alloc _,aje _⟩
theorem abE (f:FuncId) (caps:Array Value) (S:Nat->Prop) (I:Nat->World->Prop) (B:Nat) (k:Int) (w:World) (hT:lu w) (hB:w.cell? ⟨B,0,none⟩=some (ah k)) (h0:I 0 w)
 (hcf:∀ (args:Array Value) (w:World),(callFunc f args).run aA w = .ok (.enter f args) w)
 (hI:∀ j W W',I j W->aj aB W W'->I j W') (hS:∀ i,S i->i<w.heap.size)
 (hstep:∀ j l W,(su k)[j]?=some l->I j W->aj S w W->Calls aA f (#[.int .u8 l.toNat,.pointer (some ⟨B,j+1,none⟩)]++caps) W fun x W'=>x = .returned (.tuple #[])/\I (j+1) W'/\aj S W W') :
 Calls aA 181 #[au B,.func (.func f) #[] caps] w fun x w'=>x = .returned (.tuple #[])/\I (su k).length w'/\aj S w w':=by
 obtain ⟨W0,hW0⟩:∃ W',W'=(w.alloc (.cells #[.pointer (some ⟨B,1,none⟩),.pointer (some ⟨B,2,none⟩),.pointer (some ⟨B,3,none⟩)] 241)).drew:=⟨_,rfl⟩
 have hk0:aj aB w W0:=by rw [hW0];exact ((aj.refl _ _).alloc _).drew
 have hb0:aF W0 w.heap.size [.pointer (some ⟨B,1,none⟩),.pointer (some ⟨B,2,none⟩),.pointer (some ⟨B,3,none⟩)] 241:=by rw [hW0];exact (aF.bC w _ _).drew
 obtain ⟨s,hs⟩:∃ s,s=su k:=⟨_,rfl⟩
 have HL:Hid (s.length<=3):=by rw [hs];exact Rk k
 have HU:=ay (abD k W0 (hT.aK hk0))
 have hB0:=hk0.still hB
 rw [<- hs] at HU hstep ⊢
 obtain ⟨N,aO,W1,hcv,HC,bI,HN⟩:=Xu s W0
 have EF:Hid (w.heap.size<=N):=Nat.le_trans hk0.size HN.out
 have HI:=ay hI
 have HS:=ay hS
 have ahi:=ay hstep
 have H0:Hid (I 0 W1):=hI _ _ _ (hI _ _ _ h0 hk0) bI.out
 have HB1:=ay (bI.out.aH hb0 (fun f=>f))
 have afp:=ay (hk0.trans bI.out)
 clear hT hI hS hstep h0 hs HN hk0 hb0 hB
 go_enter func181,ntmps181
 go_wp2_with fail
 go_region
 rw [<- hW0]
 clear hW0
 go_wp2_with (go_at_call 219;refine HU.out.mono ?_;rintro e w1 ⟨rfl,rfl⟩)
 go_loopg [5,6,24] s.length (fun g i5 l6 i24 wr=>∃ j:Nat,g+j=s.length/\i24 = ah j/\Hid (I j wr)/\Hid (aj S W1 wr))
 case atStart=>exact ⟨0,rfl,rfl,H0,aj.refl _ _⟩
 case round =>
  obtain ⟨j,hg,rfl,HJ,Zq⟩:=hrel
  clear H0
  by_cases hlt:j<s.length
  ·have hj3:j<3:=by have:=HL.out;omega
   have hltz:(j:Int)<s.length:=by omega
   have aiG:(j:Int)<3:=by omega
   have cl:=Zq.out.nP (HC.out j _ (ajh hlt)) (fun h=>absurd (HS.out _ h) (by have:=EF.out;simp;omega))
   have cp:wr.cell? ⟨w.heap.size,j,none⟩=some (.pointer (some ⟨B,j+1,none⟩)):=by
    refine Zq.out.nP (HB1.out.cell j ?_) (fun h=>absurd (HS.out _ h) (by simp))
    rcases (by omega:j=0\/j=1\/j=2) with rfl|rfl|rfl<;>rfl
   have ahj:=ay (ahi.out j _ wr (ajh hlt) HJ.out ((afp.out.mono (fun _ _ f=>f.elim)).trans Zq.out))
   generalize s[j]=l at *
   clear hj3
   go_wp2_with (refine ahj.out.mono ?_;rintro e w2 ⟨rfl,hj2,hk2⟩)
   have HJ2:=ay hj2
   have dF:=ay (Zq.out.trans hk2)
   clear hj2 hk2
   go_roundg (gk - 1)
   case measure=>omega
   case rel=>exact ⟨j+1,by omega,by go_num,HJ2,dF⟩
  ·obtain rfl:j=s.length:=by omega
   have hge:¬ ((s.length:Int)<s.length):=by omega
   clear hg
   go_wp2_with fail
   go_end0
   exact ⟨rfl,HJ.out,(afp.out.mono (fun _ _ f=>f.elim)).trans Zq.out⟩
def yH (o:jy) (j:Nat):Int:=if j=0 then o.a else if j=1 then o.b else o.c
def wX (c:bK) (o:jy):Nat->Int
 | 0=>0
 | j+1=>jm c (wX c o j) ((su o.k).getD j 0) (yH o j)
def tN (c:bK) (o:jy):Int:=if c.ok&&vX o.k then wX c o (su o.k).length else 1
structure Ox (c:bK) (o:jy) (C B O V:Nat) (j:Nat) (W:World):Prop where
 hc:aF W C c.cells 23
 hb:aF W B o.cells 83
 ho:aF W O [ah (wX c o j)] 35
 hv:aF W V [.func (.func 180) #[] #[au O]] 218
theorem Ox.later {c:bK} {o:jy} {C B O V j:Nat} {W W':World} (h:Ox c o C B O V j W) (k:aj aB W W'):Ox c o C B O V j W' :=
 ⟨k.aH h.hc (fun f=>f),k.aH h.hb (fun f=>f),k.aH h.ho (fun f=>f),k.aH h.hv (fun f=>f)⟩
theorem Ox.step {c:bK} {o:jy} {C B O V j:Nat} {W:World} {l:UInt8} (h:Ox c o C B O V j W) (hl:(su o.k)[j]?=some l) (hC:C≠O) (hB:B≠O) (hV:V≠O) :
 Calls aA 182 (#[.int .u8 l.toNat,.pointer (some ⟨B,j+1,none⟩)]++#[au V,au C]) W fun x W'=>x = .returned (.tuple #[])/\Ox c o C B O V (j+1) W'/\aj (only O) W W':=by
 have hj3:j<3:=Nat.lt_of_lt_of_le (ake.1 hl).1 (Rk o.k)
 have hn:W.cell? ⟨B,j+1,none⟩=some (ah (yH o j)):=by
  refine h.hb.cell (j+1) ?_
  rcases (by omega:j=0\/j=1\/j=2) with rfl|rfl|rfl<;>rfl
 refine (Xr c l (yH o j) (wX c o j) B (j+1) O V C W h.ho h.hv h.hc hn).mono ?_
 rintro x W' ⟨rfl,hb,hk⟩
 have e:wX c o (j+1)=jm c (wX c o j) l (yH o j):=by
  rw [wX,ajg,hl];rfl
 exact ⟨rfl,⟨hk.aH h.hc hC,hk.aH h.hb hB,by rw [e];exact hb,hk.aH h.hv hV⟩,hk⟩
theorem Oy (c:bK) (o:jy) (w:World) (hT:lu w):Calls aA 139 #[.agg c.cells.toArray,.agg o.cells.toArray] w fun e w'=>e = .returned (ah (tN c o))/\aj aB w w':=by
 obtain ⟨W0,hW0⟩:∃ W',W'=(w.alloc (.cells c.cells.toArray 23)).alloc (.cells o.cells.toArray 83):=⟨_,rfl⟩
 have Aa:Hid (aF W0 w.heap.size c.cells 23):=by rw [hW0];exact (aF.bC w _ _).alloc _
 have Zr:Hid (aF W0 (w.heap.size+1) o.cells 83):=by rw [hW0];have h:=aF.bC (w.alloc (.cells c.cells.toArray 23)) o.cells 83;simp only [ajq] at h;exact h
 have gQ:Hid (aj aB w W0):=by rw [hW0];exact ((aj.refl _ _).alloc _).alloc _
 have HT:=ay (hT.aK gQ.out)
 have HR:=ay (Dv c W0 HT.out)
 have HIS:=ay (Zp o.k)
 clear hT
 have k0:W0.cell? ⟨w.heap.size,0,none⟩=some (ah c.b):=Aa.out.cell 0 rfl
 have k1:W0.cell? ⟨w.heap.size,1,none⟩=some (ah c.w):=Aa.out.cell 1 rfl
 have k2:W0.cell? ⟨w.heap.size,2,none⟩=some (ah c.m):=Aa.out.cell 2 rfl
 have k3:W0.cell? ⟨w.heap.size,3,none⟩=some (ah c.r):=Aa.out.cell 3 rfl
 have k4:W0.cell? ⟨w.heap.size,4,none⟩=some (ah c.c):=Aa.out.cell 4 rfl
 have k5:W0.cell? ⟨w.heap.size,5,none⟩=some (ah c.l):=Aa.out.cell 5 rfl
 have k6:W0.cell? ⟨w.heap.size,6,none⟩=some (ah c.s):=Aa.out.cell 6 rfl
 have hcc:c.cells.toArray=#[ah c.b,ah c.w,ah c.m,ah c.r,ah c.c,ah c.l,ah c.s]:=rfl
 have hoc:o.cells.toArray=#[ah o.k,ah o.a,ah o.b,ah o.c]:=rfl
 rw [hcc,hoc] at hW0 ⊢
 rw [hcc] at HR
 clear hcc hoc
 go_enter func139,ntmps139
 go_wp2_with fail
 rw [<- hW0]
 clear hW0 k0 k1 k2 k3 k4 k5 k6
 refine HR.out.mono ?_
 rintro e w1 ⟨rfl,hk1⟩
 have tV:=ay (hk1.aH Aa.out (fun f=>f))
 have uI:=ay (hk1.aH Zr.out (fun f=>f))
 have bI:=ay (gQ.out.trans hk1)
 have HT1:=ay (HT.out.aK hk1)
 have zl:Hid (w.heap.size+2<=w1.heap.size):=by have h:=uI.out.lt;unfold Hid;omega
 clear hk1 Aa Zr gQ HT HR
 cases hok:c.ok with
 | false =>
   have HE:Hid (tN c o=1):=by simp [Hid,tN,hok]
   clear hok
   go_wp2_with fail
   go_ret
   exact ⟨by rw [HE.out];rfl,bI.out⟩
 | true =>
   cases hik:vX o.k with
   | false =>
     have HE:Hid (tN c o=1):=by simp [Hid,tN,hik]
     have d0:w1.cell? ⟨w.heap.size+1,0,none⟩=some (ah o.k):=uI.out.cell 0 rfl
     rw [hik] at HIS
     clear hok hik
     go_wp2_with (go_at_call 179;refine (HIS.out _).mono ?_;rintro e w1 ⟨rfl,rfl⟩)
     go_ret
     exact ⟨by rw [HE.out];rfl,bI.out⟩
   | true =>
     have HE:Hid (tN c o=wX c o (su o.k).length):=by simp [Hid,tN,hok,hik]
     have d0:w1.cell? ⟨w.heap.size+1,0,none⟩=some (ah o.k):=uI.out.cell 0 rfl
     rw [hik] at HIS
     clear hok hik
     have hmf:∀ (fn:Fn) (first aO:Array Value) (w:World),(Instr.makeFunc fn first aO).run aA w = .ok (.func fn first aO) w:=fun _ _ _ _=>rfl
     obtain ⟨W2,hW2⟩:∃ W',W'=(w1.alloc (.cells #[ah 0] 35)).alloc (.cells #[.func (.func 180) #[] #[au w1.heap.size]] 218):=⟨_,rfl⟩
     have hk2:aj aB w1 W2:=by rw [hW2];exact ((aj.refl _ _).alloc _).alloc _
     have hO2:aF W2 w1.heap.size [ah 0] 35:=by rw [hW2];exact (aF.bC w1 _ _).alloc _
     have hV2:aF W2 (w1.heap.size+1) [.func (.func 180) #[] #[au w1.heap.size]] 218:=by rw [hW2];have h:=aF.bC (w1.alloc (.cells #[ah 0] 35)) [.func (.func 180) #[] #[au w1.heap.size]] 218;simp only [ajq] at h;exact h
     have hI:Ox c o w.heap.size (w.heap.size+1) w1.heap.size (w1.heap.size+1) 0 W2:=⟨hk2.aH tV.out (fun f=>f),hk2.aH uI.out (fun f=>f),hO2,hV2⟩
     have hsz:=zl.out
     have ahk:=ay (abE 182 #[au (w1.heap.size+1),au w.heap.size] (only w1.heap.size) (Ox c o w.heap.size (w.heap.size+1) w1.heap.size (w1.heap.size+1)) (w.heap.size+1) o.k W2 (HT1.out.aK hk2) (hk2.still d0) hI
      (fun args w=>by simp [callFunc,func182,go_sem];rfl) (fun j W W' h k=>h.later k) (fun i hi=>by unfold only at hi;have:=hV2.lt;omega)
      (fun j l W hl h k=>h.step hl (by omega) (by omega) (by omega)))
     have dF:=ay (bI.out.trans hk2)
     clear hk2 hO2 hV2 hI hsz
     go_wp2_with (go_at_call 179;refine (HIS.out _).mono ?_;rintro e w1 ⟨rfl,rfl⟩)
     rw [<- hW2]
     clear hW2
     refine ahk.out.mono ?_
     rintro e w3 ⟨rfl,hI3,hk3⟩
     have c3:=hI3.ho.cell 0 rfl
     have hK:=dF.out.kF hk3 (fun i hi h=>absurd hi (by unfold only at h;have:=zl.out;omega))
     clear hI3 hk3
     go_wp2_with fail
     go_ret
     exact ⟨by rw [HE.out];rfl,hK⟩
end
section
structure Ev where
 qX:Nat
 kind:Nat
 op:Nat
 code:Int
 value:Nat
deriving DecidableEq
structure Sh where
 H:HS
 B:Bd
 Q:Qu
 dw:Bool
 aV:List (List Nat)
inductive RD where
 | field (bP:Nat) (f:Int) (v:Nat)
 | cell (i:Int) (v:Nat)
inductive MD where
 | nil
 | kU (o:jy)
 | once (k:Int)
 | lH (v c:Nat) (t:MD)
 | add (v:Nat) (t:MD)
 | nT (c:Nat) (t:MD)
 | iK (c:Nat) (dP:Bool) (t:MD)
 | kX (t:MD)
 | field (bP:Nat) (f:Int) (t:MD)
 | load (o:jy) (bP:Nat)
 | get (o:jy)
 | uj (v:Nat) (rd:RD)
 | last (rd:RD)
 | alloc (o:jy) (k:Nat)
 | assign (o:jy) (k:Nat)
 | xJ (o:jy) (all:List Nat)
 | xK (o:jy) (k:Nat)
 | wP (o:jy) (k:Nat)
 | eX (sl:List Nat) (c:Nat) (t:MD)
 | fill (o:jy) (a:Nat)
 | zero (o:jy) (a i:Nat)
structure MS where
 id:Nat
 c:bK
 aW:List Nat
 aY:List Nat
 oq:Nat
 aP:Nat
 dQ:Nat
 prog:List jy
 dG:List (Int × Nat)
 next:MD
 held:Nat
 aU:Nat
 most0:Nat
 most1:Nat
 mg:Bool
structure xM where
 s:Sh
 m:MS
 next:MD
 ev:Option Ev
def Sh.box (s:Sh) (i:Nat):List Nat:=s.aV.getD i []
def pJ (v c:Nat) (t:MD):MD:=if v=0 then t else .lH v c t
def MS.pK (m:MS) (c:Nat) (t:MD):MD:=if m.aY=[] then t else .nT c t
def MS.Xv (m:MS) (v:Nat) (rd:RD):MD:=if m.oq=0 then .last rd else .uj v rd
def MS.did (m:MS) (code:Int) (v:Nat):MS:={ m with held:=0,dG:=m.dG++[(code,v)] }
def MS.ev (m:MS) (code:Int) (v:Nat):Ev:=⟨m.id,1,m.dG.length,code,v⟩
def sV (s:Sh) (m:MS) (code:Int) (v:Nat):xM:=⟨s,m.did code v,.nil,some (m.ev code v)⟩
def wY (s:Sh) (m:MS) (r:Int) (v:Nat):xM:=sV s { m with aW:=m.aW.set r.toNat v } 0 v
def GY (s:Sh) (m:MS) (bP:Nat) (f:Int) (t:MD):xM:=if bP=0 then sV s m 6 0 else ⟨s,m,.field bP f t,none⟩
def MS.yg (m:MS) (r:Int):Nat:=m.aW.getD r.toNat 0
def KQ (o:jy) (all:List Nat):MD:=if all.length=1 then .fill o (all.getD 0 0) else .xJ o all
def kY (s:Sh) (m:MS) (o:jy):xM :=
 if tN m.c o≠0 then sV s m (tN m.c o) 0
 else if o.k=1 then ⟨s,m,.alloc o (oh o.b),none⟩
 else if o.k=2 then GY s m (m.yg o.b) o.c (.load o (m.yg o.b))
 else if o.k=3 then GY s m (m.yg o.a) o.b (m.Xv (m.yg o.c) (.field (m.yg o.a) o.b (m.yg o.c)))
 else if o.k=4 then ⟨s,m,.get o,none⟩
 else if o.k=5 then ⟨s,m,m.Xv (m.yg o.b) (.cell o.a (m.yg o.b)),none⟩
 else if o.k=6 then sV s { m with aW:=m.aW.set o.a.toNat 0 } 0 0
 else if o.k=7 then wY s m o.a (m.yg o.b)
 else sV s m 0 0
def jP (m:MS) (k:Int):MS :=
 if k=1 then { m with aY:=[],oq:=2,dQ:=1 - m.aP }
 else if k=2 then m
 else if k=3 then { m with aP:=m.dQ }
 else if k=5 then { m with oq:=1 }
 else { m with aY:=[],oq:=0 }
def RD.read (H:HS):RD->Nat
 | .field bP f _=>H.eU bP f
 | .cell i _=>H.jc i
def RD.QM (H:HS):RD->HS
 | .field bP f v=>H.jJ bP f v
 | .cell i v=>H.vU i v
def dA (l:List Nat):Nat:=l.headD 0
def stepM (s:Sh) (m:MS):MD->xM
 | .nil=>⟨s,m,.nil,none⟩
 | .kU o=>kY s m o
 | .once k=>⟨{ s with B:=s.B.lV m.id },jP m k,.nil,none⟩
 | .lH v c t =>
   if !s.H.bn v||s.H.iU v==c then ⟨s,m,t,none⟩
   else if m.aY.length=m.c.l.toNat then ⟨s,m,m.pK c (.add v t),none⟩
   else ⟨s,{ m with aY:=m.aY++[v] },t,none⟩
 | .add v t=>if m.aY.length=m.c.l.toNat then ⟨s,m,t,none⟩ else ⟨s,{ m with aY:=m.aY++[v] },t,none⟩
 | .nT c t=>if s.box m.id=[] then ⟨{ s with aV:=s.aV.set m.id m.aY },{ m with aY:=[] },t,none⟩ else ⟨s,m,.iK c false t,none⟩
 | .iK c dP t =>
   ⟨{ s with H:=s.H.eF (dA m.aY) c },{ m with aY:=m.aY.tail },
    if m.aY.tail≠[] then .iK c (dP||s.H.iG (dA m.aY) c) t else if (dP||s.H.iG (dA m.aY) c)=true then .kX t else t,none⟩
 | .kX t=>⟨{ s with dw:=true },m,t,none⟩
 | .field bP f t=>if f<0\/((s.H.dh bP).1:Int)<=f then sV s m 7 0 else ⟨s,m,t,none⟩
 | .load o bP=>wY s m o.a (s.H.eU bP o.c)
 | .get o=>wY s m o.a (s.H.jc o.b)
 | .uj v rd=>⟨s,{ m with held:=rd.read s.H },pJ (rd.read s.H) m.dQ (if m.oq=2 then pJ v m.dQ (.last rd) else .last rd),none⟩
 | .last rd=>sV { s with H:=rd.QM s.H } m 0 0
 | .alloc o k=>if (s.H.iT k).2.1=0 then ⟨{ s with H:=(s.H.iT k).2.2 },m,.fill o (s.H.iT k).1,none⟩ else ⟨s,m,.assign o k,none⟩
 | .assign o k=>if (s.H.gq k).2.1=0 then ⟨{ s with H:=(s.H.gq k).2.2 },m,KQ o (s.H.gq k).1,none⟩ else ⟨s,m,.xK o k,none⟩
 | .xJ o all=>⟨{ s with H:=s.H.jA (all.getD (all.length - 1) 0) },m,KQ o (all.take (all.length - 1)),none⟩
 | .xK o k =>
   match s.Q.rw k with
   | []=>⟨s,m,.wP o k,none⟩
   | x::_=>⟨{ s with Q:=s.Q.take k },m,.eX (s.H.bH x.toNat) m.aP (.wP o k),none⟩
 | .wP o k=>if (s.H.iT k).2.1=0 then ⟨{ s with H:=(s.H.iT k).2.2 },m,.fill o (s.H.iT k).1,none⟩ else sV s m 10 0
 | .eX sl c t =>
   match sl with
   | []=>⟨{ s with Q:=if s.Q.dS=0 then s.Q else s.Q.wO },m,t,none⟩
   | a::r=>if !s.H.bn a||s.H.iU a==c then ⟨s,m,.eX r c t,none⟩ else ⟨{ s with H:=s.H.jH a },m,.eX r c t,some ⟨m.id,5,0,0,a⟩⟩
 | .fill o a=>⟨{ s with H:=s.H.kR a o.b },m,.zero o a 0,none⟩
 | .zero o a i=>if (i:Int)=o.b then wY { s with H:=s.H.oV a m.aP } m o.a a else ⟨{ s with H:=s.H.jJ a i 0 },m,.zero o a (i+1),none⟩
def oZ (dQ:Nat):List Nat->MD
 | [] => .once 3
 | v::l=>pJ v dQ (oZ dQ l)
def fG (s:Sh) (m:MS):MD :=
 if s.B.bF m.id then
  if s.B.kind=3 then oZ m.dQ m.aW
  else if s.B.kind=5 then m.pK m.dQ (.once 5)
  else .once s.B.kind
 else match m.prog[m.dG.length]? with
  | some o => .kU o
  | none => .nil
def MS.most (m:MS):MS:=if m.mg then { m with most1:=max m.most1 m.aU } else { m with most0:=max m.most0 m.aU }
def jD:MD->Bool
 | .nil=>true
 | _=>false
def dV (s:Sh) (m:MS):Sh × MS × Option Ev :=
 if jD m.next then (s,{ m with aU:=1,mg:=s.B.bF m.id,next:=fG s m },none)
 else
  let r:=stepM s { m with aU:=m.aU+1 } m.next
  (r.s,if jD r.next then { r.m with next := .nil }.most else { r.m with next:=r.next },r.ev)
inductive CD where
 | nil
 | dJ (m:Nat) (t:CD)
 | uY
 | sW
 | trace
 | work
 | over
 | jV
 | fP
 | eX
 | jR
 | off
 | jE
 | lC (v:Nat) (t:CD)
 | cell (i:Nat)
 | iD (a:Nat) (t:CD)
 | field (a i n:Nat) (t:CD)
 | box (m:Nat)
 | iy (b:Nat)
 | bH (l:List Nat) (t:CD)
 | ig (t:CD)
 | iJ (b:Nat)
 | block (l:List Nat)
structure CS where
 aG:Nat
 dU:Nat
 cells:Nat
 room:Nat
 phase:Nat
 aP:Nat
 cu:Nat
 jM:Bool
 dP:Bool
 bD:List Nat
 over:Bool
 next:CD
 je:Nat
 kK:Nat
structure pO where
 s:Sh
 c:CS
 next:CD
 ev:Option Ev
def Sh.qR (s:Sh) (k:Nat):Sh:={ s with B:=s.B.vW (k:Int) }
def Au (s:Sh) (c:CS) (p:Nat) (t:CD) (ev:Option Ev):pO:=⟨s.qR p,{ c with phase:=p },.dJ 0 t,ev⟩
def fC (v:Nat) (t:CD):CD:=if v=0 then t else .lC v t
def CS.iI (c:CS) (i:Nat):CD:=if i=c.cells then .work else .cell i
def fA (a i n:Nat) (t:CD):CD:=if i=n then t else .field a i n t
def CS.iL (c:CS) (b:Nat):CD:=if b=c.dU then .work else .iy b
def gX (l:List Nat) (t:CD):CD:=if l=[] then t else .bH l t
def CS.lW (c:CS) (b:Nat):CD:=if b=c.dU then .eX else .iJ b
def CS.push (c:CS) (a:Nat):CS:=if c.bD.length=c.room then { c with over:=true } else { c with bD:=c.bD++[a] }
def CS.Cb (c:CS):CS:={ c with bD:=c.bD.dropLast }
def CS.ev (c:CS) (kind value:Nat):Ev:=⟨c.aG,kind,0,0,value⟩
def Bd.did (b:Bd) (m:Nat):Bool:=b.is m && !b.vV m
def Qu.any (q:Qu):Option (Nat × Nat):=(List.range 4).findSome? fun k=>match q.rw k with
 | []=>none
 | x::_=>some (k,x.toNat)
def aN (s:Sh) (c:CS):CD->pO
 | .nil=>⟨s,c,.nil,none⟩
 | .dJ m t=>⟨s,c,if !s.B.did m then .dJ m t else if m+1<c.aG then .dJ (m+1) t else t,none⟩
 | .uY=>Au s c 2 .sW none
 | .sW=>Au s c 3 .trace none
 | .trace=>⟨s,{ c with phase:=4 },c.iI 0,none⟩
 | .cell i=>⟨s,c,fC (s.H.jc i) (c.iI (i+1)),none⟩
 | .lC v t=>if s.H.iG v c.aP then ⟨{ s with H:=s.H.eF v c.aP },{ c with dP:=true }.push v,t,none⟩ else ⟨s,c,t,none⟩
 | .work=>match c.bD.getLast? with
   | some a=>⟨s,c.Cb,.iD a .work,none⟩
   | none=>⟨s,c,.box 0,none⟩
 | .iD a t=>⟨s,c,fA a 0 (s.H.dh a).1 t,none⟩
 | .field a i n t=>⟨s,c,fC (s.H.eU a i) (fA a (i+1) n t),none⟩
 | .box m=>match s.box m with
   | a::l=>⟨{ s with aV:=s.aV.set m l },c,fC a (.box m),none⟩
   | []=>⟨s,c,if m+1<c.aG then .box (m+1) else if c.bD=[] then .over else .work,none⟩
 | .over =>
   if !s.dw && !c.over then
    (if c.phase=4 then ⟨s,c,.jV,none⟩ else if c.dP then ⟨s,{ c with phase:=4 },.jV,none⟩ else ⟨s,c,.fP,none⟩)
   else ⟨{ s with dw:=false },{ c with over:=false,dP:=true,kK:=c.kK+1 },c.iL 0,none⟩
 | .jV=>Au s { c with dP:=false,je:=c.je+1 } 5 .work none
 | .fP=>⟨s,{ c with phase:=6 },c.lW 0,some (c.ev 3 c.cu)⟩
 | .iJ b=>⟨if s.H.K.getD b 0=0 then s else { s with Q:=s.Q.put ((s.H.K.getD b 0:Int) - 1) b },c,c.lW (b+1),none⟩
 | .eX=>match s.Q.any with
   | none=>⟨s,c,.jR,none⟩
   | some (k,b)=>⟨{ s with Q:=s.Q.take k },c,.block (s.H.bH b),none⟩
 | .block sl=>match sl with
   | []=>⟨{ s with Q:=s.Q.wO },c,.eX,none⟩
   | a::r=>if !s.H.bn a||s.H.iU a==c.aP then ⟨s,c,.block r,none⟩ else ⟨{ s with H:=s.H.jH a },c,.block r,some (c.ev 5 a)⟩
 | .jR=>⟨s,c,if s.Q.jR then .off else .eX,none⟩
 | .off=>Au s c 7 .jE none
 | .jE=>⟨s,{ c with phase:=0 },.nil,some (c.ev 4 c.cu)⟩
 | .iy b=>⟨s,c,gX (s.H.bH b) (c.iL (b+1)),none⟩
 | .bH l t=>⟨s,c,if !s.H.bn (dA l)||s.H.iU (dA l) != c.aP then gX l.tail t else .iD (dA l) (.ig (gX l.tail t)),none⟩
 | .ig t=>match c.bD.getLast? with
   | some a=>⟨s,c.Cb,.iD a (.ig t),none⟩
   | none=>⟨s,c,t,none⟩
def uo:CD->Bool
 | .nil=>true
 | _=>false
def mD (s:Sh) (c:CS):pO:=Au s { c with jM:=false,cu:=c.cu+1,aP:=1 - c.aP } 1 .uY (some (c.ev 2 (c.cu+1)))
def dX (s:Sh) (c:CS):pO :=
 let r:=if !uo c.next then aN s c c.next else if c.jM then mD s c else ⟨s,c,.nil,none⟩
 ⟨r.s,{ r.c with next:=r.next },r.next,r.ev⟩
structure WS where
 s:Sh
 aG:List MS
 aC:CS
 zo:List (Nat × Ev)
 nS:Nat
def WS.qC (x:WS) (ev:Option Ev):WS:=match ev with
 | none=>{ x with nS:=x.nS+1 }
 | some e=>{ x with zo:=x.zo++[(x.nS,e)],nS:=x.nS+1 }
def eY (x:WS) (qX:Nat):WS :=
 match x.aG[qX]? with
 | some m=>let r:=dV x.s m;({ x with s:=r.1,aG:=x.aG.set qX r.2.1 }:WS).qC r.2.2
 | none =>
   if qX=x.aG.length then let r:=dX x.s x.aC;({ x with s:=r.s,aC:=r.c }:WS).qC r.ev
   else ({ x with aC:={ x.aC with jM:=true } }:WS).qC none
end
section
open Go.RowKit
theorem lX {cur n below e:Int} (he:e≠0) (h:jq cur n below e=0):cur=0/\0<=n/\n<below:=by
 unfold jq at h
 split at h
 ·exact absurd h he
 ·rename_i h1
  subst h
  simp at h1
  omega
theorem abG {c:bK} {o:jy} (h:tN c o=0):vX o.k=true/\wX c o (su o.k).length=0:=by
 unfold tN at h
 split at h
 ·rename_i h1
  simp at h1
  exact ⟨h1.2,h⟩
 ·simp at h
theorem Oz {c:bK} {o:jy} (h:tN c o=0) :
 (o.k=1/\(0<=o.a/\o.a<c.r)/\(0<=o.b/\o.b<16))\/(o.k=2/\(0<=o.a/\o.a<c.r)/\(0<=o.b/\o.b<c.r))\/(o.k=3/\(0<=o.a/\o.a<c.r)/\(0<=o.c/\o.c<c.r)) \/
 (o.k=4/\(0<=o.a/\o.a<c.r)/\(0<=o.b/\o.b<c.c))\/(o.k=5/\(0<=o.a/\o.a<c.c)/\(0<=o.b/\o.b<c.r))\/(o.k=6/\(0<=o.a/\o.a<c.r))\/(o.k=7/\(0<=o.a/\o.a<c.r)/\(0<=o.b/\o.b<c.r))\/o.k=8:=by
 obtain ⟨h1,h2⟩:=abG h
 obtain ⟨k,a,b,d⟩:=o
 simp only at *
 simp [vX] at h1
 have e:k=1\/k=2\/k=3\/k=4\/k=5\/k=6\/k=7\/k=8:=by omega
 rcases e with rfl|rfl|rfl|rfl|rfl|rfl|rfl|rfl
 ·have e:su 1=[114,115]:=rfl
  simp only [e,akn,ako,wX,jm,yH] at h2
  simp at h2
  obtain ⟨h3,h4⟩:=lX (by decide) h2
  have h5:=(lX (by decide) h3).2
  exact .inl ⟨rfl,h5,h4⟩
 ·have e:su 2=[114,114,102]:=rfl
  simp only [e,akn,ako,wX,jm,yH] at h2
  simp at h2
  obtain ⟨h3,h4⟩:=lX (by decide) h2
  have h5:=(lX (by decide) h3).2
  exact .inr (.inl ⟨rfl,h5,h4⟩)
 ·have e:su 3=[114,102,114]:=rfl
  simp only [e,akn,ako,wX,jm,yH] at h2
  simp at h2
  obtain ⟨h3,h4⟩:=lX (by decide) h2
  have h5:=(lX (by decide) h3).2
  exact .inr (.inr (.inl ⟨rfl,h5,h4⟩))
 ·have e:su 4=[114,99]:=rfl
  simp only [e,akn,ako,wX,jm,yH] at h2
  simp at h2
  obtain ⟨h3,h4⟩:=lX (by decide) h2
  have h5:=(lX (by decide) h3).2
  exact .inr (.inr (.inr (.inl ⟨rfl,h5,h4⟩)))
 ·have e:su 5=[99,114]:=rfl
  simp only [e,akn,ako,wX,jm,yH] at h2
  simp at h2
  obtain ⟨h3,h4⟩:=lX (by decide) h2
  have h5:=(lX (by decide) h3).2
  exact .inr (.inr (.inr (.inr (.inl ⟨rfl,h5,h4⟩))))
 ·have e:su 6=[114]:=rfl
  simp only [e,akn,ako,wX,jm,yH] at h2
  simp at h2
  have h5:=(lX (by decide) h2).2
  exact .inr (.inr (.inr (.inr (.inr (.inl ⟨rfl,h5⟩)))))
 ·have e:su 7=[114,114]:=rfl
  simp only [e,akn,ako,wX,jm,yH] at h2
  simp at h2
  obtain ⟨h3,h4⟩:=lX (by decide) h2
  have h5:=(lX (by decide) h3).2
  exact .inr (.inr (.inr (.inr (.inr (.inr (.inl ⟨rfl,h5,h4⟩))))))
 ·exact .inr (.inr (.inr (.inr (.inr (.inr (.inr rfl))))))
end
section
def Xw (R:Nat) (o:jy):Prop:=0<=o.a/\o.a<R
def Fp (R:Nat) (o:jy):Prop:=Xw R o/\0<=o.b/\o.b<=15
def sZ (R:Nat):MD->Prop
 | .nil=>True
 | .kU _=>True
 | .once _=>True
 | .lH _ _ t=>sZ R t
 | .add _ t=>sZ R t
 | .nT _ t=>sZ R t
 | .iK _ _ t=>sZ R t
 | .kX t=>sZ R t
 | .field _ _ t=>sZ R t
 | .load o _=>Xw R o
 | .get o=>Xw R o
 | .uj _ _=>True
 | .last _=>True
 | .alloc o k=>Fp R o/\k<4
 | .assign o k=>Fp R o/\k<4
 | .xJ o _=>Fp R o
 | .xK o k=>Fp R o/\k<4
 | .wP o k=>Fp R o/\k<4
 | .eX _ _ t=>sZ R t
 | .fill o _=>Fp R o
 | .zero o _ i=>Fp R o/\(i:Int)<=o.b
def rV (s:Sh):Prop:=∀ k:Nat,∀ x∈s.Q.rw k,0<=x/\s.H.K.getD x.toNat 0≠0
theorem rV.heap {s:Sh} {H:HS} (h:rV s) (hK:∀ x,s.H.K.getD x 0≠0->H.K.getD x 0≠0):rV { s with H:=H }:=fun k x hx=>⟨(h k x hx).1,hK _ (h k x hx).2⟩
section
variable {H:HS}
theorem VZ (k:Nat):(H.iT k).2.2.K=H.K:=by unfold HS.iT;split<;>rfl
theorem Zt (a:Nat):(H.jA a).K=H.K:=by
 unfold HS.jA
 split
 ·rfl
 ·split<;>rfl
theorem abH (a:Nat) (f:Int):(H.kR a f).K=H.K:=by
 unfold HS.kR
 split
 ·rfl
 ·split<;>rfl
theorem aed (a c:Nat):(H.oV a c).K=H.K:=by unfold HS.oV;split<;>rfl
theorem V3 (a:Nat):(H.jH a).K=H.K:=by
 unfold HS.jH
 split
 ·rw [Zt];rfl
 ·rfl
theorem Rl (a:Nat) (f:Int) (v:Nat):(H.jJ a f v).K=H.K:=by unfold HS.jJ;split<;>rfl
theorem afq (i:Int) (v:Nat):(H.vU i v).K=H.K:=by unfold HS.vU;split<;>rfl
theorem Rn (a c:Nat):(H.eF a c).K=H.K:=by unfold HS.eF;split<;>rfl
theorem Zu (k x:Nat) (h:H.K.getD x 0≠0):(H.gq k).2.2.K.getD x 0≠0:=by
 unfold HS.gq
 split
 ·exact h
 ·rename_i B hB
  show (H.K.set B (k+1)).getD x 0≠0
  by_cases e:B=x
  ·subst e
   have hlt:B<H.K.length:=by
    rcases Nat.lt_or_ge B H.K.length with h1|h1
    ·exact h1
    ·rw [ajg,List.getElem?_eq_none h1] at h;exact absurd rfl h
   rw [Gz hlt];omega
  ·rw [Ez e];exact h
theorem ahl (rd:RD):(rd.QM H).K=H.K:=by
 cases rd with
 | field b f v=>exact Rl b f v
 | cell i v=>exact afq i v
end
theorem rV.same {s:Sh} {H:HS} (h:rV s) (hK:H.K=s.H.K):rV { s with H:=H }:=h.heap (fun x hx=>by rw [hK];exact hx)
theorem Ro {l:List (List Int)} {i j:Nat} {r:List Int} {x:Int} (hr:∀ y∈r,y∈l.getD i []) (h:x∈(l.set i r).getD j []):∃ k,x∈l.getD k []:=by
 rw [ajg] at h
 by_cases e:i=j
 ·subst e
  by_cases hlt:i<l.length
  ·rw [ajA hlt] at h
   exact ⟨i,hr _ h⟩
  ·rw [List.set_eq_of_length_le (by omega),<- ajg] at h
   exact ⟨i,h⟩
 ·rw [ajB e,<- ajg] at h
  exact ⟨j,h⟩
theorem rV.take {s:Sh} (h:rV s) (k:Nat):rV { s with Q:=s.Q.take k }:=fun j x hx=>by
 obtain ⟨i,hi⟩:=Ro (l:=s.Q.rows) (i:=(k:Int).toNat) (j:=j) (r:=(s.Q.row k).drop 1) (fun y hy=>List.mem_of_mem_drop hy) hx
 exact h i x hi
theorem rV.done {s:Sh} (h:rV s):rV { s with Q:=s.Q.wO }:=fun k x hx=>h k x hx
structure AL (N:Nat) (s:Sh) (m:MS):Prop where
 aP:m.aP<2
 dQ:m.dQ<2
 dS:s.Q.dS<=N
 dG:m.dG.length<=N
 q:rV s
 sp:m.aU<=N
 rl:(m.aW.length:Int)=m.c.r
 nx:sZ m.aW.length m.next
structure SK (N:Nat) (m:MS) (r:xM):Prop where
 aP:r.m.aP<2
 dQ:r.m.dQ<2
 dS:r.s.Q.dS<=N+1
 dG:r.m.dG.length<=N+1
 q:rV r.s
 nx:sZ r.m.aW.length r.next
 c:r.m.c=m.c
 id:r.m.id=m.id
 prog:r.m.prog=m.prog
 uq:r.m.aW.length=m.aW.length
 aU:r.m.aU=m.aU
section
variable {N:Nat} {s:Sh} {m:MS}
structure Dz (N:Nat) (s:Sh) (m:MS):Prop where
 aP:m.aP<2
 dQ:m.dQ<2
 dS:s.Q.dS<=N
 dG:m.dG.length<=N
 q:rV s
 rl:(m.aW.length:Int)=m.c.r
theorem Dz.sV (h:Dz N s m) {s':Sh} (code:Int) (v:Nat) (ho:s'.Q.dS<=N+1) (hq:rV s'):SK N m (sV s' m code v) :=
 ⟨h.aP,h.dQ,ho,by have:=h.dG;show (m.dG++[(code,v)]).length<=N+1;simp;omega,hq,trivial,rfl,rfl,rfl,rfl,rfl⟩
theorem Dz.wY (h:Dz N s m) {s':Sh} (r:Int) (v:Nat) (ho:s'.Q.dS<=N+1) (hq:rV s'):SK N m (wY s' m r v) :=
 ⟨h.aP,h.dQ,ho,by have:=h.dG;show (m.dG++[((0:Int),v)]).length<=N+1;simp;omega,hq,trivial,rfl,rfl,rfl,by show (m.aW.set r.toNat v).length=_;simp,rfl⟩
theorem Dz.next (h:Dz N s m) {s':Sh} {d:MD} {ev:Option Ev} (ho:s'.Q.dS<=N+1) (hq:rV s') (hd:sZ m.aW.length d):SK N m ⟨s',m,d,ev⟩ :=
 ⟨h.aP,h.dQ,ho,by have:=h.dG;show m.dG.length<=N+1;omega,hq,hd,rfl,rfl,rfl,rfl,rfl⟩
theorem Dz.opn1 (h:Dz N s m):s.Q.dS<=N+1:=by have:=h.dS;omega
theorem afr (f:Int):oh f<4:=by unfold oh;(repeat' split)<;>omega
theorem Rq {R:Nat} {c:Nat} {t:MD} (h:sZ R t):sZ R (m.pK c t):=by
 unfold MS.pK
 split<;>exact h
theorem JJ {R:Nat} {v c:Nat} {t:MD} (h:sZ R t):sZ R (pJ v c t):=by
 unfold pJ
 split<;>exact h
theorem V4 {R:Nat} {v:Nat} {rd:RD}:sZ R (m.Xv v rd):=by
 unfold MS.Xv
 split<;>trivial
theorem OA {R:Nat} {o:jy} {all:List Nat} (h:Fp R o):sZ R (KQ o all):=by
 unfold KQ
 split<;>exact h
theorem abI (h:Dz N s m) (o:jy):SK N m (kY s m o):=by
 have d:=fun code v=>h.sV (s':=s) code v h.opn1 h.q
 unfold kY
 split
 ·exact d _ _
 rename_i hc
 have hc':tN m.c o=0:=by simpa using hc
 have ha:o.k=1->Fp m.aW.length o:=fun e=>by
  rcases Oz hc' with ⟨hk,ha,hb⟩|⟨hk,ha,hb⟩|⟨hk,ha,hb⟩|⟨hk,ha,hb⟩|⟨hk,ha,hb⟩|⟨hk,ha⟩|⟨hk,ha,hb⟩|hk
  ·exact ⟨⟨ha.1,by rw [h.rl];exact ha.2⟩,hb.1,by omega⟩
  all_goals omega
 have hr:o.k=2\/o.k=4->Xw m.aW.length o:=fun e=>by
  rcases Oz hc' with ⟨hk,ha,hb⟩|⟨hk,ha,hb⟩|⟨hk,ha,hb⟩|⟨hk,ha,hb⟩|⟨hk,ha,hb⟩|⟨hk,ha⟩|⟨hk,ha,hb⟩|hk
  ·omega
  ·exact ⟨ha.1,by rw [h.rl];exact ha.2⟩
  ·omega
  ·exact ⟨ha.1,by rw [h.rl];exact ha.2⟩
  all_goals omega
 have fd:∀ bP f t,sZ m.aW.length t->SK N m (GY s m bP f t):=fun bP f t ht=>by
  unfold GY
  split
  ·exact d _ _
  ·exact h.next h.opn1 h.q ht
 split
 ·rename_i e;exact h.next h.opn1 h.q ⟨ha e,afr _⟩
 split
 ·rename_i e;exact fd _ _ _ (hr (.inl e))
 split
 ·exact fd _ _ _ V4
 split
 ·rename_i e;exact h.next h.opn1 h.q (hr (.inr e))
 split
 ·exact h.next h.opn1 h.q V4
 split
 ·exact ⟨h.aP,h.dQ,h.opn1,by have:=h.dG;show (m.dG++[((0:Int),0)]).length<=N+1;simp;omega,h.q,trivial,rfl,rfl,rfl,by show (m.aW.set _ _).length=_;simp,rfl⟩
 split
 ·exact h.wY _ _ h.opn1 h.q
 ·exact d _ _
theorem Nz (h:Dz N s m) (d:MD) (hd:sZ m.aW.length d):SK N m (stepM s m d):=by
 have q:=h.q
 have o1:=h.opn1
 cases d with
 | nil=>exact h.next o1 q trivial
 | kU o=>exact abI h o
 | once k =>
   have hw:=h.dQ
   have hc:=h.aP
   have hr:=h.dG
   have hb:rV { s with B:=s.B.lV m.id }:=fun k x hx=>q k x hx
   simp only [stepM,jP]
   repeat' split
   all_goals exact ⟨by simp only<;>omega,by simp only<;>omega,o1,by simp only<;>omega,hb,trivial,rfl,rfl,rfl,rfl,rfl⟩
 | lH v c t =>
   simp only [stepM]
   repeat' split
   ·exact h.next o1 q hd
   ·exact h.next o1 q (Rq hd)
   ·exact ⟨h.aP,h.dQ,o1,by have:=h.dG;simp only;omega,q,hd,rfl,rfl,rfl,rfl,rfl⟩
 | add v t =>
   simp only [stepM]
   split
   ·exact h.next o1 q hd
   ·exact ⟨h.aP,h.dQ,o1,by have:=h.dG;simp only;omega,q,hd,rfl,rfl,rfl,rfl,rfl⟩
 | nT c t =>
   simp only [stepM]
   split
   ·exact ⟨h.aP,h.dQ,o1,by have:=h.dG;simp only;omega,fun k x hx=>q k x hx,hd,rfl,rfl,rfl,rfl,rfl⟩
   ·exact h.next o1 q hd
 | iK c f t =>
   simp only [stepM]
   refine ⟨h.aP,h.dQ,o1,by have:=h.dG;simp only;omega,q.same (Rn _ _),?_,rfl,rfl,rfl,rfl,rfl⟩
   repeat' split
   all_goals exact hd
 | kX t=>exact h.next o1 (fun k x hx=>q k x hx) hd
 | field bP f t =>
   simp only [stepM]
   split
   ·exact h.sV _ _ o1 q
   ·exact h.next o1 q hd
 | load o bP=>exact h.wY _ _ o1 q
 | get o=>exact h.wY _ _ o1 q
 | uj v rd =>
   simp only [stepM]
   refine ⟨h.aP,h.dQ,o1,by have:=h.dG;simp only;omega,q,?_,rfl,rfl,rfl,rfl,rfl⟩
   refine JJ ?_
   split
   ·exact JJ trivial
   ·trivial
 | last rd=>exact h.sV _ _ o1 (q.same (ahl rd))
 | alloc o k =>
   simp only [stepM]
   split
   ·exact h.next o1 (q.same (VZ k)) hd.1
   ·exact h.next o1 q hd
 | assign o k =>
   simp only [stepM]
   split
   ·exact h.next o1 (q.heap (fun x hx=>Zu k x hx)) (OA hd.1)
   ·exact h.next o1 q hd
 | xJ o all=>exact h.next o1 (q.same (Zt _)) (OA hd)
 | xK o k =>
   simp only [stepM]
   split
   ·exact h.next o1 q hd
   ·exact h.next (by have:=h.dS;show s.Q.dS+1<=N+1;omega) (q.take k) hd
 | wP o k =>
   simp only [stepM]
   split
   ·exact h.next o1 (q.same (VZ k)) hd.1
   ·exact h.sV _ _ o1 q
 | eX sl c t =>
   cases sl with
   | nil =>
     simp only [stepM]
     refine h.next ?_ ?_ hd
     ·show (if s.Q.dS=0 then s.Q else s.Q.wO).dS<=N+1
      split
      ·exact o1
      ·show s.Q.dS - 1<=N+1;omega
     ·show rV { s with Q:=if s.Q.dS=0 then s.Q else s.Q.wO }
      split
      ·exact q
      ·exact q.done
   | cons a r =>
     simp only [stepM]
     split
     ·exact h.next o1 q hd
     ·exact h.next o1 (q.same (V3 a)) hd
 | fill o a=>exact h.next o1 (q.same (abH _ _)) ⟨hd,hd.2.1⟩
 | zero o a i =>
   obtain ⟨hd1,hd2⟩:=hd
   simp only [stepM]
   split
   ·exact h.wY _ _ o1 (q.same (aed _ _))
   ·refine h.next o1 (q.same (Rl _ _ _)) ⟨hd1,?_⟩
    push_cast;omega
theorem V5 {R c:Nat}:∀ l:List Nat,sZ R (oZ c l)
 | []=>trivial
 | _::l=>JJ (V5 l)
theorem abJ {R:Nat}:sZ R (fG s m):=by
 unfold fG
 split
 ·split
  ·exact V5 _
  ·split
   ·exact Rq trivial
   ·trivial
 ·split<;>trivial
theorem V6 (h:AL N s m):AL (N+1) (dV s m).1 (dV s m).2.1/\(dV s m).2.1.c=m.c/\(dV s m).2.1.id=m.id/\(dV s m).2.1.prog=m.prog/\(dV s m).2.1.aW.length=m.aW.length:=by
 unfold dV
 split
 ·exact ⟨⟨h.aP,h.dQ,by have:=h.dS;simp only;omega,by have:=h.dG;simp only;omega,h.q,by simp only;omega,h.rl,abJ⟩,rfl,rfl,rfl,rfl⟩
 ·have hs:Dz N s { m with aU:=m.aU+1 }:=⟨h.aP,h.dQ,h.dS,h.dG,h.q,h.rl⟩
  have r:=Nz hs m.next h.nx
  have sp:(stepM s { m with aU:=m.aU+1 } m.next).m.aU<=N+1:=by rw [r.aU];have:=h.sp;simp only;omega
  have rl:((stepM s { m with aU:=m.aU+1 } m.next).m.aW.length:Int)=(stepM s { m with aU:=m.aU+1 } m.next).m.c.r:=by rw [r.uq,r.c];exact h.rl
  generalize stepM s { m with aU:=m.aU+1 } m.next=R at *
  have rn:=r.nx
  simp only
  split
  ·unfold MS.most
   split
   ·exact ⟨⟨r.aP,r.dQ,r.dS,r.dG,r.q,sp,rl,trivial⟩,r.c,r.id,r.prog,r.uq⟩
   ·exact ⟨⟨r.aP,r.dQ,r.dS,r.dG,r.q,sp,rl,trivial⟩,r.c,r.id,r.prog,r.uq⟩
  ·exact ⟨⟨r.aP,r.dQ,r.dS,r.dG,r.q,sp,rl,rn⟩,r.c,r.id,r.prog,r.uq⟩
end
end
end Go.Proofs.YtanfphjoebobaaaGreatDoor
