/- Parts of the walk. No conditions. -/
import Derived.Test.YtanfphjoebobaaaGreatDoorZzec
namespace Go.Proofs.YtanfphjoebobaaaGreatDoor
open _root_.Go.Proofs.Tryz hiding prog
open _root_.Go.Proofs.Tryz renaming prog->ay
set_option maxRecDepth 100000
set_option maxHeartbeats 2000000
section
attribute [local go_sem ↓] jT
attribute [local go_sem] Oper.semAt_some
open Go.RowKit
section
variable {c:aK} {b ww:Nat} (hok:c.ok=true) (hb:c.b=b) (hw:c.w=ww)
include hok hb hw
theorem E5 (k B0:Nat) (hk:k<4) (hB:B0<b) (w:World) (hT:Tabs w) (hS:Sizes w):Calls ay 103 #[.agg c.cells.toArray,ah (k:Int),ah (B0:Int)] w fun e w'=>∃ v,e = .returned v/\w'.ownsRow w.heap.size 3 1 v (ww/2^(k+1)) ((kH (ww/2^(k+1)) (2^(k+1)) (B0*ww)).map fun x:Nat => ah (x:Int))/\Keep none_ w w':=by
 have hn:=lD hok hb hw
 have hz:=qV hk
 have ada:Hid (∀ j x W,x=B0*ww+j*2^(k+1)->j<ww/2^(k+1)->Keep none_ w W->Calls ay 147 #[.agg c.cells.toArray,ah (k:Int),ah (B0:Int),ah (j:Int)] W fun e w'=>e = .returned (ah ((x:Int)+1))/\Keep none_ W w'):=fun j x W hx hj hW=>by rw [hx];exact Uj hok hb hw k B0 j hk hB hj W (hT.keep hW) (hS.keep hW)
 have uw:Hid (∀ j,j<ww/2^(k+1)->B0*ww+j*2^(k+1)<1048577):=fun j hj=>by
  have h1:j*2^(k+1)<=(ww/2^(k+1))*2^(k+1):=Nat.mul_le_mul_right _ (Nat.le_of_lt hj)
  have h2:=Nat.div_mul_le_self ww (2^(k+1))
  have h3:(B0+1)*ww<=b*ww:=Nat.mul_le_mul_right ww (Nat.succ_le_of_lt hB)
  have h4:(B0+1)*ww=B0*ww+ww:=by rw [Nat.add_mul,Nat.one_mul]
  omega
 have Ir:Hid (ww/2^(k+1)<=256):=Nat.le_trans (Nat.div_le_self _ _) hn.2.2.2.1
 obtain ⟨W0,hW0⟩:∃ W',W'=(((w.alloc (.cells c.cells.toArray 23)).alloc (.cells #[ah (k:Int)] 3)).alloc (.cells #[ah (B0:Int)] 3)).alloc (.cells #[.slice none 0 0] 32):=⟨_,rfl⟩
 have hk0:Keep none_ w W0:=by rw [hW0];exact ((((Keep.refl _ _).alloc _).alloc _).alloc _).alloc _
 have HK:=au hk0
 have wF:=au (show aA W0 w.heap.size c.cells 23 by rw [hW0];exact (((aA.new w _ _).alloc _).alloc _).alloc _)
 have dN:Hid (aA W0 (w.heap.size+1) [ah (k:Int)] 3):=by
  rw [hW0]
  have h:=aA.new (w.alloc (.cells c.cells.toArray 23)) [ah (k:Int)] 3
  rw [World.size_alloc] at h
  exact (h.alloc _).alloc _
 have HB0:Hid (aA W0 (w.heap.size+1+1) [ah (B0:Int)] 3):=by
  rw [hW0]
  have h:=aA.new ((w.alloc (.cells c.cells.toArray 23)).alloc (.cells #[ah (k:Int)] 3)) [ah (B0:Int)] 3
  rw [World.size_alloc,World.size_alloc] at h
  exact h.alloc _
 have Ut:Hid (aA W0 (w.heap.size+1+1+1) [.slice none 0 0] 32):=by
  rw [hW0]
  have h:=aA.new (((w.alloc (.cells c.cells.toArray 23)).alloc (.cells #[ah (k:Int)] 3)).alloc (.cells #[ah (B0:Int)] 3)) [.slice none 0 0] 32
  rw [World.size_alloc,World.size_alloc,World.size_alloc] at h
  exact h
 have HST:=au (KH (ww:Int) (k:Int) W0)
 have uV:Hid (W0.heap.size=w.heap.size+1+1+1+1):=by rw [Hid,hW0];simp
 have GU:Hid (∀ W,Keep none_ w W->∀ pB kB,aA W pB [ah (ww:Int)] 3->aA W kB [ah (k:Int)] 3->D7 Fence.wide 8 ay 193 #[aj pB,aj kB] (wB (ww/2^(k+1)) (2^(k+1))) zl (wC pB kB) W):=fun W hW pB kB h1 h2=>QN ww k pB kB ⟨hn.2.2.1,hn.2.2.2.1⟩ hk 8 W (hS.keep hW) h1 h2
 have HSG:Hid (2<w.heap.size):=by
  have h:=hS 0 2 rfl
  exact World.block_lt_of_cell? _ _ h
 generalize 2^(k+1)=z at *
 generalize ww/z=per at *
 generalize hbase:B0*ww=base at *
 obtain ⟨c0,c1,c2,c3,c4,c5,c6⟩:=c
 simp only at hb hw
 subst hb hw
 simp only [aK.cells] at *
 have y1:=wF.out.cell 1 rfl
 have y2:=dN.out.cell 0 rfl
 clear hT hS hok hn hz hk hB hk0 hbase
 refine (callsIn_wide (n:=9)).1 ?_
 refine callsIn_of_wp_marks func103 rfl trivial ?_ rfl
 refine wpIn_wide.2 ?_
 simp only [ntmps103,List.size_toArray,List.length_cons,List.length_nil,Nat.reduceAdd,Nat.reduceSub,Array.replicate_succ,Array.replicate_zero,List.push_toArray,List.append_toArray,List.nil_append,List.cons_append]
 go_wp2_with fail
 rw [<- hW0]
 clear hW0 y1 y2
 refine HST.out.mono ?_
 rintro e w1 ⟨rfl,hp1,hk1,hkk⟩
 have HSQ:=au (GU.out w1 (HK.out.trans hkk) _ _ hp1 hk1)
 have HI1:Hid (Aw w w1.heap.size (w.heap.size+1+1+1) [ah (b:Int),ah (ww:Int),ah c2,ah c3,ah c4,ah c5,ah c6] k B0 z base 0 w1) :=
  ⟨HK.out.trans hkk,hkk.blk wF.out (fun f=>f),hkk.blk dN.out (fun f=>f),hkk.blk HB0.out (fun f=>f),Nat.le_refl _,_,hkk.blk Ut.out (fun f=>f),⟨rfl,.inl ⟨rfl,rfl⟩⟩⟩
 have uY:Hid (∀ i,wC W0.heap.size (W0.heap.size+1) i->i<w1.heap.size/\i≠w.heap.size+1+1+1):=by
  have h1:=hk1.lt;have h2:=uV.out;have h3:=HSG.out;have h4:=hkk.size
  rintro i (rfl|rfl|rfl)
  ·exact ⟨by omega,by omega⟩
  ·exact ⟨by omega,by omega⟩
  ·exact ⟨by omega,by omega⟩
 have xE:Hid (w.heap.size<=w1.heap.size/\w.heap.size+1+1+1<w1.heap.size):=⟨(HK.out.trans hkk).size,by have h1:=hk1.lt;have h2:=uV.out;omega⟩
 have aef:Hid (W0.heap.size+2<=w1.heap.size):=by have h1:=hk1.lt;unfold Hid;omega
 clear hp1 hk1 hkk HST GU wF dN HB0 Ut
 go_wp2_with fail
 refine wpIn_wide (n:=9) |>.1 ?_
 refine GL rfl (by decide) (gf:=193) (lb:=#[aj W0.heap.size,aj (W0.heap.size+1)]) rfl trivial (fun args w=>by simp [callFunc,func193,go_sem];rfl) (all:=wB per z) (Enc:=zl) (G:=wC W0.heap.size (W0.heap.size+1))
  HSQ.out ?hG ?hps
  (fun j W=>Aw w w1.heap.size (w.heap.size+1+1+1) [ah (b:Int),ah (ww:Int),ah c2,ah c3,ah c4,ah c5,ah c6] k B0 z base j W)
  (fun _ _ _=>False)
  ?hI ?hIx ?h0 ?round ?done ?stop
 case hI=>exact Aw.own xE.out.1
 case hIx=>exact fun c s W W' row h hg hr=>h
 case h0=>exact HI1.out
 case hG=>exact fun i hi=>(uY.out i hi).1
 case hps =>
  rintro W x args h
  rw [h];rfl
 case stop=>exact fun D c k W hD hk h=>h.elim
 case round =>
  rintro l j x args W hx henc hI
  have hj:j<per:=by
   have h:=(List.getElem?_eq_some_iff.1 hx).1
   rwa [vM] at h
  rw [Ii hj] at hx
  injection hx with hx
  subst hx
  obtain rfl:args=_:=henc
  have HI:=au hI
  clear hI
  gi_wp2_with fail
  refine ⟨fun W=>Aw w w1.heap.size (w.heap.size+1+1+1) [ah (b:Int),ah (ww:Int),ah c2,ah c3,ah c4,ah c5,ah c6] k B0 z base j W,KeepsFrom.refl _ _,Holds.refl _ _,HI.out,(fun _ W' W'' row h hg hr=>Aw.own xE.out.1 j W' W'' row h hg hr),?_⟩
  clear HI
  rintro W2 hI
  have Dp:Hid (w1.heap.size<=W2.heap.size):=hI.big
  have q0:=hI.cf.cell 0 rfl;have q1:=hI.cf.cell 1 rfl;have q2:=hI.cf.cell 2 rfl;have q3:=hI.cf.cell 3 rfl;have q4:=hI.cf.cell 4 rfl;have q5:=hI.cf.cell 5 rfl;have q6:=hI.cf.cell 6 rfl
  have qk:=hI.k.cell 0 rfl
  have qb:=hI.b.cell 0 rfl
  have hbd:=uw.out j hj
  obtain ⟨x,hx⟩:∃ x,x=base+j*z:=⟨_,rfl⟩
  rw [<- hx] at hbd
  have HX:=au hx
  have hpos:(0:Int)<(x:Int)+1:=by omega
  have HA:=au (ada.out j x W2 hx hj hI.keep)
  clear hx
  have HI:=au hI
  clear hI
  gi_wp2_with fail
  refine ⟨trivial,CallsIn.mono (CallsIn.inRound l (callsIn_wide.2 HA.out)) ?_⟩
  rintro e w3 ⟨rfl,hk3⟩
  have HI3:=au (HI.out.later hk3)
  have HKF:=au (KeepsFrom.rH (B:=w1.heap.size) hk3)
  have xG:=au (Holds.rH (G:=wC W0.heap.size (W0.heap.size+1)) hk3 (fun i hi=>⟨Nat.lt_of_lt_of_le (uY.out i hi).1 (Dp.out),fun f=>f⟩))
  clear hk3 q0 q1 q2 q3 q4 q5 q6 qk qb HI HA
  obtain ⟨v,sH,hrow⟩:=HI3.out.o
  obtain ⟨W4,iZ⟩:∃ W',W'=w3.alloc (.cells #[ah ((x:Int)+1)] 3):=⟨_,rfl⟩
  have hk4:Keep none_ w3 W4:=by rw [iZ];exact (Keep.refl _ _).alloc _
  obtain ⟨g,cap,w5,hrun,hown,hgr,hwh⟩:=nY (P:=ay) W4 32 32 3 (by kernel_rfl) Tryz.infoInt rfl (bD (bV hrow hk4) (Nat.zero_le _)) (N:=w3.heap.size) (u := ah ((x:Int)+1)) (by rw [iZ];exact (aA.new w3 _ _).cell 0 rfl) rfl (by decide) (by have:=Ir.out;omega)
  have hrun9:(app9 #[32,32] 32 #[v,.slice (some ⟨w3.heap.size,0,none⟩) 1 1]).run ay (w3.alloc (.cells #[ah ((x:Int)+1)] 3)) = .ok (.slice (some ⟨g,0,none⟩) (j+1) cap) w5:=by rw [<- iZ];exact hrun
  have cO:=sH.cell 0 (v:=v) rfl
  have hne:v.ownBlock≠some (w.heap.size+1+1+1):=own_ne sH hrow (by decide)
  have hbo5:=(hk4.blk sH (fun f=>f)).grown hgr hne
  have cO5:=hbo5.cell 0 (v:=v) rfl
  have fO5:=hbo5.free 0
  have hge:∀ q,v.ownBlock=some q->w1.heap.size<=q:=fun q hq=>(World.ownsRow.lt hrow q hq).1
  have hge':w1.heap.size<=g:=by
   rcases hwh with h|h
   ·exact hge g h
   ·have h1:=HI3.out.big;have h2:=hk4.size;omega
  have fD:Hid (Aw w w1.heap.size (w.heap.size+1+1+1) [ah (b:Int),ah (ww:Int),ah c2,ah c3,ah c4,ah c5,ah c6] k B0 z base (j+1) (w5.setCell ⟨w.heap.size+1+1+1,0,none⟩ (.slice (some ⟨g,0,none⟩) (j+1) cap))/\KeepsFrom w1.heap.size W2 (w5.setCell ⟨w.heap.size+1+1+1,0,none⟩ (.slice (some ⟨g,0,none⟩) (j+1) cap))/\Holds (wC W0.heap.size (W0.heap.size+1)) W2 (w5.setCell ⟨w.heap.size+1+1+1,0,none⟩ (.slice (some ⟨g,0,none⟩) (j+1) cap))):=by
   have hk5:Keep none_ w w5:=(HI3.out.keep.trans hk4).grew (bV hrow hk4) xE.out.1 hgr
   have hneq:∀ q,q<w1.heap.size->v.ownBlock≠some q:=fun q hq e=>by have:=hge q e;omega
   have h01:=xE.out
   refine ⟨⟨hk5.eP (by omega) _ _,?_,?_,?_,?_,.slice (some ⟨g,0,none⟩) (j+1) cap,?_,?_⟩,?_,?_⟩
   ·exact (((hk4.blk HI3.out.cf (fun f=>f)).grown hgr (hneq _ (by omega))).other (by simp;omega) _)
   ·exact (((hk4.blk HI3.out.k (fun f=>f)).grown hgr (hneq _ (by omega))).other (by simp) _)
   ·exact (((hk4.blk HI3.out.b (fun f=>f)).grown hgr (hneq _ (by omega))).other (by simp) _)
   ·have h1:=HI3.out.big;have h2:=hk4.size;have h3:=hgr.size;simp;omega
   ·exact hbo5.set 0 _
   ·rw [OI,List.map_append,<- HX.out]
    exact KJ (uo (a:=⟨w.heap.size+1+1+1,0,none⟩) hown (fun q hq=>by simp [Value.ownBlock] at hq;show q≠w.heap.size+1+1+1;have h1:=xE.out;omega) _) hge'
   ·refine (HKF.out.trans (KeepsFrom.rH hk4)).trans (KeepsFrom.trans (Y:=w5) ⟨hgr.size,fun q o hB hq ho=>(hgr.block q (Array.getElem?_eq_some_iff.1 hq).1 (fun e=>?_)).trans hq⟩ ((KeepsOthers.setCell _ _ _).from _))
    obtain ⟨cur,hcur⟩:=jI (bD (bV hrow hk4) (Nat.zero_le _)) e.symm
    rw [hcur] at hq
    cases hq
    simp [Obj.isCells] at ho
   ·refine (xG.out.trans (Holds.rH hk4 (fun i hi=>⟨Nat.lt_of_lt_of_le (uY.out i hi).1 HI3.out.big,fun f=>f⟩))).trans ⟨by simp;exact hgr.size,fun i hi=>?_⟩
    have h1:=uY.out i hi
    rw [Below.heap_setCell _ _ _ _ (by simp;exact h1.2)]
    exact hgr.block i (Nat.lt_of_lt_of_le h1.1 (Nat.le_trans HI3.out.big hk4.size)) (fun e=>hneq i h1.1 e.symm)
  clear hge hge' hne sH hbo5 hgr hown hwh hrun hk4 hrow iZ
  gi_wp2_with fail
  exact ⟨fD.out.2.1,fD.out.2.2,fD.out.1⟩
 case done =>
  rintro D W hD hI Dq
  rw [vM] at hI
  obtain ⟨v,sH,hrow⟩:=hI.o
  have cO:=sH.cell 0 (v:=v) rfl
  have Uz:=hI.keep.takeDeferred (D:=D) (by have:=xE.out.1;omega) (.deferred none)
  have yt:=au hrow
  clear hrow
  go_wp2_with fail
  refine ⟨by simp,.inl ⟨_,_,rfl,run_takeDeferred Dq,?_⟩⟩
  refine ⟨v,by simp [results,Tryz.f103,go_sem],v,rfl,bD (dY (S:=fun i=>i=D) yt.out ⟨rfl,rfl,rfl,by simp,fun q _ n=>World.putObj_heap_other n⟩ (fun q hq e=>?_)) xE.out.1,Uz⟩
  obtain ⟨cur,hcur⟩:=jI (bD yt.out (Nat.zero_le _)) hq
  rw [e,Dq] at hcur
  cases hcur
end
end
section
open Go.RowKit
theorem Iu (a:Option Addr) (n c:Nat) (zs:List Int) (m:Int) (w:World) (h:fU .i64 w a n zs) (hm:n<=9223372036854775807) :
 Calls ay 100 #[.slice a n c,ah m] w fun e w'=>(∃ r:Int,e = .returned (ah r)/\((∃ i:Nat,i<n/\r=(i:Int)/\zs.getD i 0=m/\∀ j,j<i->zs.getD j 0≠m)\/(r = -1/\∀ j,j<n->zs.getD j 0≠m)))/\w=w':=by
 go_enter func100,ntmps100
 go_wp2
 go_loop [8] (fun i=>∃ k:Nat,k<=n/\i = ah k/\∀ j,j<k->zs.getD j 0≠m) (fun i=>n - (intOf i).toNat)
 case atStart=>exact ⟨0,Nat.zero_le _,rfl,fun j hj=>absurd hj (by omega)⟩
 case round =>
  obtain ⟨k,hk,rfl,hr⟩:=hrel
  have hl:=h.len
  by_cases hlt:k<n
  ·obtain ⟨b,off,rfl,hc⟩:=h.at_ (by omega)
   have hck:=hc k hlt
   by_cases hx:zs.getD k 0=m
   ·rw [hx] at hck
    have HE:Hid ((∃ i:Nat,i<n/\(k:Int)=(i:Int)/\zs.getD i 0=m/\∀ j,j<i->zs.getD j 0≠m)):=⟨k,hlt,rfl,hx,hr⟩
    clear hc hr h hx hl
    go_wp2
    go_ret
    exact ⟨⟨_,rfl,.inl HE.out⟩,rfl⟩
   ·have hne:(m==zs.getD k 0)=false:=by simpa using fun e:m=_=>hx e.symm
    have HR:Hid (∀ j,j<k+1->zs.getD j 0≠m):=fun j hj=>by
     rcases Nat.lt_succ_iff_lt_or_eq.1 hj with h1|h1
     ·exact hr j h1
     ·rw [h1];exact hx
    generalize zs.getD k 0=x at hck hne
    clear hc hr h hx hl
    go_wp2
    go_round
    case rel=>exact ⟨k+1,by omega,by go_num,HR.out⟩
    case measure=>simp [intOf];omega
  ·have HE:Hid (∀ j,j<n->zs.getD j 0≠m):=fun j hj=>hr j (by omega)
   clear hr h hl
   go_wp2
   go_ret
   exact ⟨⟨_,rfl,.inr ⟨rfl,HE.out⟩⟩,rfl⟩
def aG (K:List Nat):List Value:=K.map (fun x:Nat => ah (x:Int))
theorem nK {K:List Nat} {p:Nat} (hp:p<K.length):(aG K)[p]?=some (ah (K.getD p 0:Nat)):=by
 unfold aG
 rw [List.getElem?_map,List.getElem?_eq_getElem hp,List.getD_eq_getElem?_getD,List.getElem?_eq_getElem hp];rfl
theorem zq (K:List Nat) (p x:Nat):aG (K.set p x)=(aG K).set p (ah (x:Int)):=by
 unfold aG
 rw [List.map_set]
structure dU (w:World) (R X:Nat) (c:aK) (K:List Nat):Prop where
 blk:aA w R (c.cells++[.slice (some ⟨X,0,none⟩) K.length K.length]) 145
 cls:aA w X (aG K) 3
 len:c.b=(K.length:Int)
 le:∀ x∈K,x<=4
 ok:c.ok=true
section
variable {w w':World} {R X:Nat} {c:aK} {K:List Nat}
theorem dU.keep {S:Nat->Prop} (h:dU w R X c K) (k:Keep S w w') (hR:¬ S R) (hX:¬ S X):dU w' R X c K :=
 ⟨k.blk h.blk hR,k.blk h.cls hX,h.len,h.le,h.ok⟩
theorem dU.still (h:dU w R X c K) (k:Keep none_ w w'):dU w' R X c K:=h.keep k (fun f=>f) (fun f=>f)
theorem dU.ne (h:dU w R X c K):R≠X:=fun e=>by
 have h1:=h.blk
 rw [e] at h1
 exact absurd (h1.uniq h.cls).2 (by decide)
theorem dU.small (h:dU w R X c K):1<=K.length/\K.length<=4096:=by
 have h1:=(fQ h.ok).1
 have h2:=h.len
 omega
theorem dU.ints (h:dU w R X c K):fU .i64 w (some ⟨X,0,none⟩) K.length (K.map (fun x:Nat=>(x:Int))):=by
 refine ⟨by simp,fun _=>⟨X,0,rfl,fun j hj=>?_⟩⟩
 rw [Nat.zero_add]
 have e:(K.map (fun x:Nat=>(x:Int))).getD j 0=(K.getD j 0:Nat):=by
  rw [List.getD_eq_getElem?_getD,List.getElem?_map,List.getElem?_eq_getElem hj,List.getD_eq_getElem?_getD,List.getElem?_eq_getElem hj];rfl
 rw [e]
 exact h.cls.cell j (nK hj)
theorem tY (h:dU w R X c K):Calls ay 53 #[aj R] w fun e w'=>e = .returned (.agg c.cells.toArray)/\Keep none_ w w':=by
 have hb:=h.blk
 obtain ⟨c0,c1,c2,c3,c4,c5,c6⟩:=c
 simp only [aK.cells,List.cons_append,List.nil_append] at hb ⊢
 have HA:∀ o,Keep none_ w (w.alloc o):=fun o=>(Keep.refl _ _).alloc o
 have s0:=fun o=>(HA o).still (hb.cell 0 rfl);have s1:=fun o=>(HA o).still (hb.cell 1 rfl);have s2:=fun o=>(HA o).still (hb.cell 2 rfl);have s3:=fun o=>(HA o).still (hb.cell 3 rfl);have s4:=fun o=>(HA o).still (hb.cell 4 rfl);have s5:=fun o=>(HA o).still (hb.cell 5 rfl);have s6:=fun o=>(HA o).still (hb.cell 6 rfl)
 have HB:Hid (∀ o,Keep none_ w (w.alloc o)):=HA
 clear HA
 clear h hb
 go_enter func53,ntmps53
 go_wp2_with fail
 obtain ⟨W1,hW1⟩:∃ W',W'=w.alloc (.cells #[ah c0,ah c1,ah c2,ah c3,ah c4,ah c5,ah c6] 23):=⟨_,rfl⟩
 rw [<- hW1]
 have hF:aA W1 w.heap.size [ah c0,ah c1,ah c2,ah c3,ah c4,ah c5,ah c6] 23:=by rw [hW1];exact aA.new w _ _
 have k0:=hF.cell 0 rfl;have k1:=hF.cell 1 rfl;have k2:=hF.cell 2 rfl;have k3:=hF.cell 3 rfl;have k4:=hF.cell 4 rfl;have k5:=hF.cell 5 rfl;have k6:=hF.cell 6 rfl
 refine bodyPost_ret (v := .agg #[ah c0,ah c1,ah c2,ah c3,ah c4,ah c5,ah c6]) (by simp [results,Tryz.f53,go_sem,k0,k1,k2,k3,k4,k5,k6]) rfl ⟨rfl,?_⟩
 rw [hW1];exact HB.out _
theorem AO (h:dU w R X c K) (B k:Nat) (hB:B<K.length) (hk:K.getD B 0=k+1) (h4:k<4):Calls ay 102 #[aj R,ah (B:Int)] w fun e w'=>e = .returned (.tuple #[ah (k:Int),.bool true])/\w=w':=by
 have hb:=h.blk
 obtain ⟨c0,c1,c2,c3,c4,c5,c6⟩:=c
 simp only [aK.cells,List.cons_append,List.nil_append] at hb
 have y7:=hb.cell 7 rfl
 have z:=h.cls.cell B (nK hB)
 rw [hk] at z
 have hs:=h.small
 have d1:decide ((K.length:Int)<=(B:Int))=false:=decide_eq_false (by omega)
 have d2:((((k+1:Nat):Int))==0)=false:=by simp;omega
 have d3:IntKind.i64.wrap ((((k+1:Nat):Int)) - 1)=(k:Int):=by rw [IntWalk.i64_in _ (by omega)];omega
 obtain ⟨q,hq⟩:∃ q:Int,q=((k+1:Nat):Int):=⟨_,rfl⟩
 rw [<- hq] at z d2 d3
 have hBI:(B:Int)<(K.length:Int):=by omega
 have Iw:(0:Int)<=(B:Int):=by omega
 generalize K.length=L at *
 clear h hb hk hs hq hB
 go_enter func102,ntmps102
 go_wp2_with fail
 go_ret2
 exact ⟨rfl,rfl⟩
theorem UA (h:dU w R X c K) (ww B k s:Nat) (hw:c.w=ww) (hB:B<K.length) (hk:K.getD B 0=k+1) (h4:k<4) (hs:s<ww/2^(k+1)) (hT:Tabs w) (hS:Sizes w):Calls ay 149 #[aj R,ah (((B*ww+s*2^(k+1):Nat):Int)+1)] w fun e w'=>e = .returned (.tuple #[ah (B:Int),ah (k:Int),.bool true])/\Keep none_ w w':=by
 have hn:=lD h.ok h.len hw
 have hz:=qV h4
 obtain ⟨q1,q2,q3,q4,q5⟩:=zk (b:=K.length) (j:=0) hz ⟨hn.2.2.1,hn.2.2.2.1⟩ hB hs (by omega)
 have HF:Hid (∀ W,Keep none_ w W->Calls ay 197 #[.agg c.cells.toArray,ah (k:Int),ah (((B*ww+s*2^(k+1):Nat):Int)+1)] W fun e w'=>e = .returned (.tuple #[.agg #[ah (B:Int),ah (s:Int),ah 0],.bool true])/\Keep none_ W w'):=fun W hW=>Ig h.ok h.len hw k B s 0 h4 hB hs (by omega) W (hT.keep hW) (hS.keep hW)
 have HAB:Hid (∀ W,Keep none_ w W->Calls ay 196 #[.agg c.cells.toArray,ah (((B*ww+s*2^(k+1):Nat):Int)+1)] W fun e w'=>e = .returned (.tuple #[ah (B:Int),.bool true])/\Keep none_ W w'):=fun W hW=>by
  have h9:=vK h.ok h.len hw (B*ww+s*2^(k+1)) (by simpa using q2) W (hT.keep hW)
  rw [show (B*ww+s*2^(k+1))/ww=B by simpa using q3] at h9
  exact h9
 have HC:Hid (∀ W,Keep none_ w W->Calls ay 53 #[aj R] W fun e w'=>e = .returned (.agg c.cells.toArray)/\Keep none_ W w'):=fun W hW=>tY (h.still hW)
 have l9:Hid (∀ W,Keep none_ w W->Calls ay 102 #[aj R,ah (B:Int)] W fun e w'=>e = .returned (.tuple #[ah (k:Int),.bool true])/\W=w'):=fun W hW=>AO (h.still hW) B k hB hk h4
 generalize (((B*ww+s*2^(k+1):Nat):Int)+1)=a at *
 obtain ⟨c0,c1,c2,c3,c4,c5,c6⟩:=c
 simp only [aK.cells] at *
 have HKK:=au (Keep.refl none_ w)
 clear h hn hz q1 q2 q3 q4 q5 hB hk h4 hs hT hS hw
 go_enter func149,ntmps149
 go_wp2_with (first
  | (go_at_call 53;refine (HC.out _ HKK.out).mono ?_;rintro e w1 ⟨rfl,hk1⟩;have HKK:=au (HKK.out.trans hk1);clear hk1)
  | (go_at_call 196;refine (HAB.out _ HKK.out).mono ?_;rintro e w1 ⟨rfl,hk1⟩;have HKK:=au (HKK.out.trans hk1);clear hk1)
  | (go_at_call 197;refine (HF.out _ HKK.out).mono ?_;rintro e w1 ⟨rfl,hk1⟩;have HKK:=au (HKK.out.trans hk1);clear hk1)
  | (go_at_call 102;refine (l9.out _ HKK.out).mono ?_;rintro e w1 ⟨rfl,rfl⟩))
 go_ret3
 exact ⟨rfl,HKK.out.alloc _⟩
theorem UC (h:dU w R X c K) (ww B k:Nat) (hw:c.w=ww) (hB:B<K.length) (hk:K.getD B 0=k+1) (h4:k<4) (hT:Tabs w) (hS:Sizes w):Calls ay 63 #[aj R,ah (B:Int)] w fun e w'=>∃ v,e = .returned v/\w'.ownsRow w.heap.size 3 1 v (ww/2^(k+1)) ((kH (ww/2^(k+1)) (2^(k+1)) (B*ww)).map fun x:Nat => ah (x:Int))/\Keep none_ w w':=by
 have HA:=au (E5 h.ok h.len hw k B h4 hB w hT hS)
 have l9:=au (AO h B k hB hk h4)
 have hb:=h.blk
 obtain ⟨c0,c1,c2,c3,c4,c5,c6⟩:=c
 simp only [aK.cells,List.cons_append,List.nil_append] at *
 have y0:=hb.cell 0 rfl;have y1:=hb.cell 1 rfl;have y2:=hb.cell 2 rfl;have y3:=hb.cell 3 rfl;have y4:=hb.cell 4 rfl;have y5:=hb.cell 5 rfl;have y6:=hb.cell 6 rfl
 generalize kH (ww/2^(k+1)) (2^(k+1)) (B*ww)=sl at *
 generalize ww/2^(k+1)=per at *
 clear h hb hB hk h4 hT hS hw
 go_enter func63,ntmps63
 go_wp2_with (first
  | (go_at_call 102;refine l9.out.mono ?_;rintro e w1 ⟨rfl,rfl⟩)
  | (go_at_call 103;refine HA.out.mono ?_;rintro e w1 ⟨v,rfl,ho,hk1⟩;have HO:=au ho;have HKK:=au hk1;clear ho hk1))
 go_ret
 exact ⟨_,rfl,HO.out,HKK.out⟩
theorem Q5 (h:dU w R X c K) (B k:Nat) (hB:B<K.length) (hk:K.getD B 0=0) (hl:∀ j,j<B->K.getD j 0≠0) (h4:k<4):Calls ay 203 #[aj R,ah (k:Int)] w fun e w'=>e = .returned (.tuple #[ah (B:Int),ah 0])/\dU w' R X c (K.set B (k+1))/\Keep (only X) w w':=by
 have hgd:∀ j,j<K.length->(K.map (fun x:Nat=>(x:Int))).getD j 0=(K.getD j 0:Nat):=fun j hj=>by
  rw [List.getD_eq_getElem?_getD,List.getElem?_map,List.getElem?_eq_getElem hj,List.getD_eq_getElem?_getD,List.getElem?_eq_getElem hj];rfl
 have HIX:Hid (Calls ay 100 #[.slice (some ⟨X,0,none⟩) K.length K.length,ah 0] w fun e w'=>e = .returned (ah (B:Int))/\w=w'):=by
  refine (Iu (some ⟨X,0,none⟩) K.length K.length _ 0 w h.ints (by have:=h.small;omega)).mono ?_
  rintro e w' ⟨⟨r,rfl,hr⟩,rfl⟩
  refine ⟨?_,rfl⟩
  rcases hr with ⟨i,hi,rfl,hi0,hil⟩|⟨_,hno⟩
  ·rw [hgd i hi] at hi0
   have e:i=B:=by
    rcases Nat.lt_trichotomy i B with h1|h1|h1
    ·exact absurd (Int.ofNat_eq_zero.1 hi0) (hl i h1)
    ·exact h1
    ·have:=hil B h1
     rw [hgd B hB,hk] at this
     exact absurd rfl this
   rw [e]
  ·have:=hno B hB
   rw [hgd B hB,hk] at this
   exact absurd rfl this
 have HI:=au (lI (k:Int) w)
 rw [decide_eq_true (by omega)] at HI
 have hb:=h.blk
 have H:=au h
 obtain ⟨c0,c1,c2,c3,c4,c5,c6⟩:=c
 simp only [aK.cells,List.cons_append,List.nil_append] at hb
 have y7:=hb.cell 7 rfl
 have z:=h.cls.cell B (nK hB)
 have fz:=h.cls.free B
 have hs:=h.small
 have HBK:Hid (B<K.length):=hB
 have hBI:(B:Int)<(K.length:Int):=by omega
 have Iw:(0:Int)<=(B:Int):=by omega
 have d0:¬ ((B:Int)<0):=by omega
 have hwr:IntKind.i64.wrap ((k:Int)+1)=(k:Int)+1:=IntWalk.i64_in _ (by omega)
 have H4:Hid (k<4):=h4
 generalize hL:K.length=L at *
 clear h hb hk hl h4 hgd hs hB
 go_enter func203,ntmps203
 go_wp2_with (first|(go_at_call 198;refine HI.out.mono ?_;rintro e w1 ⟨rfl,rfl⟩)|(go_at_call 100;refine HIX.out.mono ?_;rintro e w1 ⟨rfl,rfl⟩))
 go_ret2
 have h9:=H.out
 have hkw:Keep (only X) w (w.setCell ⟨X,B,none⟩ (ah ((k:Int)+1))):=(Keep.refl _ _).put _ _
 refine ⟨rfl,⟨?_,?_,?_,?_,h9.ok⟩,hkw⟩
 ·rw [List.length_set];exact hkw.blk h9.blk h9.ne
 ·rw [zq];exact h9.cls.set _ _
 ·rw [List.length_set];exact h9.len
 ·intro x hx
  rcases List.mem_or_eq_of_mem_set hx with h1|rfl
  ·exact h9.le x h1
  ·have:=H4.out;omega
theorem La (h:dU w R X c K) (k:Nat) (hl:∀ j,j<K.length->K.getD j 0≠0) (h4:k<4):Calls ay 203 #[aj R,ah (k:Int)] w fun e w'=>e = .returned (.tuple #[ah 0,ah 10])/\w=w':=by
 have HIX:Hid (Calls ay 100 #[.slice (some ⟨X,0,none⟩) K.length K.length,ah 0] w fun e w'=>e = .returned (ah (-1))/\w=w'):=by
  refine (Iu (some ⟨X,0,none⟩) K.length K.length _ 0 w h.ints (by have:=h.small;omega)).mono ?_
  rintro e w' ⟨⟨r,rfl,hr⟩,rfl⟩
  refine ⟨?_,rfl⟩
  rcases hr with ⟨i,hi,rfl,hi0,hil⟩|⟨rfl,_⟩
  ·rw [List.getD_eq_getElem?_getD,List.getElem?_map,List.getElem?_eq_getElem hi] at hi0
   have:=hl i hi
   rw [List.getD_eq_getElem?_getD,List.getElem?_eq_getElem hi] at this
   exact absurd (Int.ofNat_eq_zero.1 hi0) this
  ·rfl
 have HI:=au (lI (k:Int) w)
 rw [decide_eq_true (by omega)] at HI
 have hb:=h.blk
 obtain ⟨c0,c1,c2,c3,c4,c5,c6⟩:=c
 simp only [aK.cells,List.cons_append,List.nil_append] at hb
 have y7:=hb.cell 7 rfl
 generalize K.length=L at *
 clear h hb hl h4
 go_enter func203,ntmps203
 go_wp2_with (first|(go_at_call 198;refine HI.out.mono ?_;rintro e w1 ⟨rfl,rfl⟩)|(go_at_call 100;refine HIX.out.mono ?_;rintro e w1 ⟨rfl,rfl⟩))
 go_ret2
 exact ⟨rfl,rfl⟩
theorem ZM (c:aK) (b:Nat) (hok:c.ok=true) (hcb:c.b=b) (w:World) (hT:Tabs w):Calls ay 107 #[.agg c.cells.toArray] w fun e w'=>∃ R X,e = .returned (.tuple #[aj R,ah 0])/\dU w' R X c (List.replicate b 0)/\w.heap.size<=R/\w.heap.size<=X/\Keep none_ w w':=by
 have hbd:=(fQ hok).1
 have hmk:∀ w:World,(Instr.makeSlice 32 (ah (b:Int)) (ah (b:Int))).run ay w = .ok (.slice (some ⟨w.heap.size,0,none⟩) b b) (w.alloc (.cells (zeros (ah 0) b).toArray 3)) :=
  fun w=>run_mk (P:=ay) (by kernel_rfl) Tryz.infoInt rfl (by decide) b (by omega) _ rfl w
 obtain ⟨W0,hW0⟩:∃ W',W'=w.alloc (.cells c.cells.toArray 23):=⟨_,rfl⟩
 have HK:Hid (Keep none_ w W0):=by rw [hW0];exact (Keep.refl _ _).alloc _
 have HR:=au (xw c W0 (hT.keep HK.out))
 rw [hok] at HR
 have HB:=au (show aA W0 w.heap.size c.cells 23 by rw [hW0];exact aA.new w _ _)
 have HOK:=au hok
 have uw:=au hbd
 have uV:Hid (W0.heap.size=w.heap.size+1):=by rw [Hid,hW0];simp
 have hcb':=hcb
 obtain ⟨c0,c1,c2,c3,c4,c5,c6⟩:=c
 simp only at hcb
 subst hcb
 simp only [aK.cells] at *
 clear hT hok hbd hcb'
 go_enter func107,ntmps107
 go_wp2_with fail
 rw [<- hW0]
 clear hW0
 refine HR.out.mono ?_
 rintro e w1 ⟨rfl,hk1⟩
 have hb1:=hk1.blk HB.out (fun f=>f)
 have aJ:=au (HK.out.trans hk1)
 have y0:=hb1.cell 0 rfl;have y1:=hb1.cell 1 rfl;have y2:=hb1.cell 2 rfl;have y3:=hb1.cell 3 rfl;have y4:=hb1.cell 4 rfl;have y5:=hb1.cell 5 rfl;have y6:=hb1.cell 6 rfl
 have HA:∀ o,Keep none_ w1 (w1.alloc o):=fun o=>(Keep.refl _ _).alloc o
 have s0:=fun o=>(HA o).still y0;have s1:=fun o=>(HA o).still y1;have s2:=fun o=>(HA o).still y2;have s3:=fun o=>(HA o).still y3;have s4:=fun o=>(HA o).still y4;have s5:=fun o=>(HA o).still y5;have s6:=fun o=>(HA o).still y6
 clear hk1 hb1 HA HR HK HB
 go_wp2_with fail
 go_region
 obtain ⟨W3,hW3⟩:∃ W',W'=((w1.alloc (.cells (zeros (ah 0) b).toArray 3)).alloc (.cells #[ah (b:Int),ah c1,ah c2,ah c3,ah c4,ah c5,ah c6,.slice (some ⟨w1.heap.size,0,none⟩) b b] 145)).drew:=⟨_,rfl⟩
 rw [<- hW3]
 go_wp2_with fail
 go_ret2
 have hz:zeros (ah 0) b=aG (List.replicate b 0):=by simp [zeros,aG]
 have h1:=aJ.out.size
 refine ⟨w1.heap.size+1,w1.heap.size,rfl,⟨?_,?_,by simp,fun x hx=>by rw [List.eq_of_mem_replicate hx];decide,HOK.out⟩,by omega,by omega,?_⟩
 ·rw [hW3]
  have h:=aA.new (w1.alloc (.cells (zeros (ah 0) b).toArray 3)) [ah (b:Int),ah c1,ah c2,ah c3,ah c4,ah c5,ah c6,.slice (some ⟨w1.heap.size,0,none⟩) b b] 145
  rw [World.size_alloc] at h
  simp only [List.length_replicate,aK.cells,List.cons_append,List.nil_append]
  exact h.drew
 ·rw [hW3,hz]
  exact ((aA.new w1 _ _).alloc _).drew
 ·rw [hW3]
  exact ((aJ.out.alloc _).alloc _).drew
end
end
section
def iK (W:List Nat) (i:Nat):Bool:=(W.getD (i/64) 0).testBit (i%64)
def qL (W:List Nat) (i:Nat):List Nat:=W.set (i/64) (W.getD (i/64) 0 ^^^ 2^(i%64))
theorem Lc (W:List Nat) (i:Nat):(qL W i).length=W.length:=by simp [qL]
theorem Af {W:List Nat} {i:Nat} (h:i<W.length) (x:Nat):(W.set i x).getD i 0=x:=by
 rw [List.getD_eq_getElem?_getD,List.getElem?_set_self h];rfl
theorem getD_set_ne {W:List Nat} {i j:Nat} (h:i≠j) (x:Nat):(W.set i x).getD j 0=W.getD j 0:=by
 rw [List.getD_eq_getElem?_getD,List.getElem?_set_ne h,<- List.getD_eq_getElem?_getD]
theorem UD {W:List Nat} {i:Nat} (h:i/64<W.length):iK (qL W i) i = !iK W i:=by
 unfold iK qL
 rw [Af h,Nat.testBit_xor,Nat.testBit_two_pow_self]
 simp
theorem Q7 {W:List Nat} {i j:Nat} (h:j≠i):iK (qL W i) j=iK W j:=by
 unfold iK qL
 by_cases e:i/64=j/64
 ·by_cases hl:i/64<W.length
  ·rw [<- e,Af hl,Nat.testBit_xor,Nat.testBit_two_pow_of_ne (by omega)]
   simp
  ·rw [List.set_eq_of_length_le (by omega)]
 ·rw [getD_set_ne e]
theorem ZN {W:List Nat} {i:Nat} (hW:∀ x∈W,x<2^64):∀ x∈qL W i,x<2^64:=by
 intro x hx
 unfold qL at hx
 rcases List.mem_or_eq_of_mem_set hx with h|rfl
 ·exact hW x h
 ·have h1:W.getD (i/64) 0<2^64:=by
   by_cases hl:i/64<W.length
   ·rw [List.getD_eq_getElem?_getD,List.getElem?_eq_getElem hl]
    exact hW _ (List.getElem_mem hl)
   ·rw [List.getD_eq_getElem?_getD,List.getElem?_eq_none (by omega)];decide
  exact Nat.xor_lt_two_pow h1 (Nat.pow_lt_pow_right (by decide) (Nat.mod_lt _ (by decide)))
theorem P5 (n i:Nat):iK (List.replicate n 0) i=false:=by
 unfold iK
 have e:(List.replicate n 0).getD (i/64) 0=0:=by
  rw [List.getD_eq_getElem?_getD,List.getElem?_replicate]
  split<;>rfl
 rw [e,Nat.zero_testBit]
theorem ZO (X k:Nat) (hX:X<18446744073709551616):bits .and .u64 ((X/2^k:Nat):Int) 1=if X.testBit k then 1 else 0:=by
 have h1:X/2^k<18446744073709551616:=Nat.lt_of_le_of_lt (Nat.div_le_self _ _) hX
 have h:=bits_and_u64_nat (X/2^k) 1 h1 (by decide)
 rw [show ((1:Nat):Int)=1 from rfl] at h
 rw [h,Nat.and_one_is_mod,Nat.testBit_eq_decide_div_mod_eq]
 by_cases e:X/2^k%2=1
 ·rw [if_pos (by simpa using e),e];rfl
 ·have e0:X/2^k%2=0:=by omega
  rw [if_neg (by simpa using e),e0];rfl
end
section
open Go.RowKit
theorem Tryz.infoU:(ay.info? 146).map (fun i=>(i.zero,i.size,i.bytes))=some (some (.int .u64 0),1,8):=by kernel_rfl
def jf (W:List Nat):List Value:=W.map (fun x:Nat => .int .u64 (x:Int))
structure fH (w:World) (B X size:Nat) (W:List Nat):Prop where
 blk:∃ cap,aA w B [.slice (some ⟨X,0,none⟩) W.length cap,ah size] 149
 lF:∃ cur,aA w X cur 146/\∀ (i:Nat) (v:Value),(jf W)[i]?=some v->cur[i]?=some v
 len:W.length=(size+63)/64
 lt:∀ x∈W,x<18446744073709551616
 sz:size<=2097152
section
variable {w w':World} {B X size:Nat} {W:List Nat}
theorem fH.ne (h:fH w B X size W):B≠X:=fun e=>by
 obtain ⟨cap,h1⟩:=h.blk
 obtain ⟨cur,h2,_⟩:=h.lF
 rw [e] at h1
 exact absurd (h1.uniq h2).2 (by decide)
theorem fH.keep {S:Nat->Prop} (h:fH w B X size W) (k:Keep S w w') (hB:¬ S B) (hX:¬ S X):fH w' B X size W:=by
 obtain ⟨cap,h1⟩:=h.blk
 obtain ⟨cur,h2,h3⟩:=h.lF
 exact ⟨⟨cap,k.blk h1 hB⟩,⟨cur,k.blk h2 hX,h3⟩,h.len,h.lt,h.sz⟩
theorem fH.still (h:fH w B X size W) (k:Keep none_ w w'):fH w' B X size W:=h.keep k (fun f=>f) (fun f=>f)
theorem fH.word (h:fH w B X size W) {n:Nat} (hn:n<size):n/64<W.length/\w.cell? ⟨X,n/64,none⟩=some (.int .u64 (W.getD (n/64) 0:Nat))/\W.getD (n/64) 0<18446744073709551616:=by
 have hl:n/64<W.length:=by rw [h.len];omega
 obtain ⟨cur,h2,h3⟩:=h.lF
 refine ⟨hl,h2.cell (n/64) (h3 _ _ ?_),?_⟩
 ·unfold jf
  rw [List.getElem?_map,List.getElem?_eq_getElem hl,List.getD_eq_getElem?_getD,List.getElem?_eq_getElem hl];rfl
 ·rw [List.getD_eq_getElem?_getD,List.getElem?_eq_getElem hl]
  exact h.lt _ (List.getElem_mem hl)
theorem UE (h:fH w B X size W):Calls ay 142 #[aj B] w fun e w'=>e = .returned (ah (size:Int))/\w=w':=by
 obtain ⟨cap,hb⟩:=h.blk
 have y1:=hb.cell 1 rfl
 clear h hb
 go_enter func142,ntmps142
 go_wp2_with fail
 go_ret
 exact ⟨rfl,rfl⟩
theorem Ee (h:fH w B X size W) (n:Int):Calls ay 95 #[aj B,ah n] w fun e w'=>e = .returned (.bool (decide (0<=n/\n<(size:Int))))/\w=w':=by
 have HS:=au (UE h)
 clear h
 by_cases h0:0<=n
 ·have d0:decide (0<=n)=true:=decide_eq_true h0
  have HE:Hid (decide (0<=n/\n<(size:Int))=decide (n<(size:Int))):=by simp [Hid,h0]
  rw [HE.out]
  clear HE h0
  go_enter func95,ntmps95
  go_wp2_with (go_at_call 142;refine HS.out.mono ?_;rintro e w1 ⟨rfl,rfl⟩)
  go_ret
  exact ⟨rfl,rfl⟩
 ·have d0:decide (0<=n)=false:=decide_eq_false h0
  have HE:Hid (decide (0<=n/\n<(size:Int))=false):=by simp [Hid,h0]
  rw [HE.out]
  clear HE h0
  go_enter func95,ntmps95
  go_wp2_with (go_at_call 142;refine HS.out.mono ?_;rintro e w1 ⟨rfl,rfl⟩)
  go_ret
  exact ⟨rfl,rfl⟩
def jK (size:Nat) (W:List Nat) (n:Int):Bool:=decide (0<=n/\n<(size:Int))&&iK W n.toNat
theorem Ef (h:fH w B X size W) (n:Int):Calls ay 54 #[aj B,ah n] w fun e w'=>e = .returned (.bool (jK size W n))/\w=w':=by
 have HM:=au (Ee h n)
 by_cases hn:0<=n/\n<(size:Int)
 ·obtain ⟨k,rfl⟩:∃ k:Nat,n=k:=⟨n.toNat,by omega⟩
  obtain ⟨hl,hc,hx⟩:=h.word (n:=k) (by omega)
  obtain ⟨cap,hblk⟩:=h.blk
  have y0:=hblk.cell 0 rfl
  have hsz:=h.sz
  rw [decide_eq_true hn] at HM
  have HE:Hid (jK size W (k:Int)=(W.getD (k/64) 0).testBit (k%64)):=by
   rw [Hid,jK,decide_eq_true hn,Bool.true_and,Int.toNat_natCast];rfl
  rw [HE.out]
  obtain ⟨x,hxe⟩:∃ x,x=W.getD (k/64) 0:=⟨_,rfl⟩
  rw [<- hxe] at hc hx ⊢
  have HB:=au (ZO x (k%64) hx)
  generalize W.length=L at *
  have hk:k<2097152:=by omega
  clear h HE hxe hn hsz hblk
  go_enter func54,ntmps54
  go_wp2_with (go_at_call 95;refine HM.out.mono ?_;rintro e w1 ⟨rfl,rfl⟩)
  go_ret
  refine ⟨?_,rfl⟩
  have e:((x:Int)/2^(k%64))=((x/2^(k%64):Nat):Int):=by simp
  show Ending.returned (.bool (bits .and .u64 ((x:Int)/2^(k%64)) 1==1))=_
  rw [e,HB.out]
  cases x.testBit (k%64)<;>rfl
 ·rw [decide_eq_false hn] at HM
  have HE:Hid (jK size W n=false):=by rw [Hid,jK,decide_eq_false hn];rfl
  rw [HE.out]
  clear h hn HE
  go_enter func54,ntmps54
  go_wp2_with (go_at_call 95;refine HM.out.mono ?_;rintro e w1 ⟨rfl,rfl⟩)
  go_ret
  exact ⟨rfl,rfl⟩
def fK (size:Nat) (W:List Nat) (n:Int) (inn:Bool):Bool:=decide (0<=n/\n<(size:Int))&&(jK size W n != inn)
def ig (size:Nat) (W:List Nat) (n:Int) (inn:Bool):List Nat:=if fK size W n inn=true then qL W n.toNat else W
theorem wH (h:fH w B X size W) (n:Int) (inn:Bool):Calls ay 163 #[aj B,ah n,.bool inn] w fun e w'=>e = .returned (.bool (fK size W n inn))/\fH w' B X size (ig size W n inn)/\Keep (only X) w w':=by
 have HM:=au (Ee h n)
 have HH:=au (Ef h n)
 have HS:=au h
 by_cases hn:0<=n/\n<(size:Int)
 ·rw [decide_eq_true hn] at HM
  cases hp:jK size W n==inn with
  | true =>
    have HE:Hid (fK size W n inn=false):=by rw [Hid,fK,bne,hp];simp
    have HL:Hid (ig size W n inn=W):=by rw [Hid,ig,if_neg (by rw [HE.out];decide)]
    rw [HE.out,HL.out]
    generalize jK size W n=hb at *
    clear h hn HE HL
    go_enter func163,ntmps163
    go_wp2_with (first|(go_at_call 95;refine HM.out.mono ?_;rintro e w1 ⟨rfl,rfl⟩)|(go_at_call 54;refine HH.out.mono ?_;rintro e w1 ⟨rfl,rfl⟩))
    go_ret
    exact ⟨rfl,HS.out,Keep.refl _ _⟩
  | false =>
    have HE:Hid (fK size W n inn=true):=by rw [Hid,fK,bne,hp,decide_eq_true hn];rfl
    have HL:Hid (ig size W n inn=qL W n.toNat):=by rw [Hid,ig,if_pos HE.out]
    rw [HE.out,HL.out]
    obtain ⟨k,rfl⟩:∃ k:Nat,n=k:=⟨n.toNat,by omega⟩
    obtain ⟨hl,hc,hx⟩:=h.word (n:=k) (by omega)
    obtain ⟨cap,hblk⟩:=h.blk
    obtain ⟨cur,hcur,hpre⟩:=h.lF
    have y0:=hblk.cell 0 rfl
    have fx:=hcur.free (k/64)
    have adb:=au hcur
    have aaS:=au hpre
    have ade:=au hblk
    have hsz:=h.sz
    have hk:k<2097152:=by omega
    obtain ⟨x,hxe⟩:∃ x,x=W.getD (k/64) 0:=⟨_,rfl⟩
    rw [<- hxe] at hc hx
    have Xr:2^(k%64)<18446744073709551616:=by
     have:2^(k%64)<2^64:=Nat.pow_lt_pow_right (by decide) (Nat.mod_lt _ (by decide))
     exact this
    have HX:=au (bits_xor_u64_nat x (2^(k%64)) hx Xr)
    have HXE:=au hxe
    have HPW:=au Xr
    generalize jK size W (k:Int)=hb at *
    have kP:Hid (k/64<W.length):=hl
    obtain ⟨L,P6⟩:∃ L,L=W.length:=⟨_,rfl⟩
    rw [<- P6] at y0 hl
    clear h hxe hn hsz HE HL hx Xr hblk hcur hpre
    clear P6
    go_enter func163,ntmps163
    go_wp2_with (first|(go_at_call 95;refine HM.out.mono ?_;rintro e w1 ⟨rfl,rfl⟩)|(go_at_call 54;refine HH.out.mono ?_;rintro e w1 ⟨rfl,rfl⟩))
    go_region
    have e1:IntKind.u64.wrap (2^(k%64))=((2^(k%64):Nat):Int):=by
     have h1:(2:Int)^(k%64)=((2^(k%64):Nat):Int):=by simp
     rw [h1,IntKind.wrap_u64]
     have:=HPW.out
     generalize 2^(k%64)=z at *
     omega
    rw [e1,HX.out]
    clear e1
    have hne:=HS.out.ne
    obtain ⟨W1,hW1⟩:∃ W',W'=(w.setCell ⟨X,k/64,none⟩ (.int .u64 ((x ^^^ 2^(k%64):Nat):Int))).drew:=⟨_,rfl⟩
    rw [<- hW1]
    have hk1:Keep (only X) w W1:=by rw [hW1];exact ((Keep.refl (only X) w).put _ _).drew
    have hset:fH W1 B X size (qL W k):=by
     refine ⟨⟨cap,?_⟩,⟨cur.set (k/64) (.int .u64 ((x ^^^ 2^(k%64):Nat):Int)),?_,?_⟩,by rw [Lc];exact HS.out.len,ZN HS.out.lt,HS.out.sz⟩
     ·rw [Lc];exact hk1.blk ade.out hne
     ·rw [hW1];exact (adb.out.set _ _).drew
     ·intro i v hi
      unfold jf qL at hi
      rw [<- HXE.out,List.map_set,List.getElem?_set] at hi
      rw [List.getElem?_set]
      by_cases e:k/64=i
      ·subst e
       have h3:(jf W)[k/64]?=some (.int .u64 (W.getD (k/64) 0:Nat)):=by
        unfold jf
        rw [List.getElem?_map,List.getElem?_eq_getElem kP.out,List.getD_eq_getElem?_getD,List.getElem?_eq_getElem kP.out];rfl
       have h4:=(List.getElem?_eq_some_iff.1 (aaS.out _ _ h3)).1
       rw [if_pos rfl,if_pos (by simpa using kP.out)] at hi
       rw [if_pos rfl,if_pos h4]
       exact hi
      ·rw [if_neg e] at hi ⊢
       exact aaS.out i v hi
    have adf:=au hset
    have aJ:=au hk1
    clear hset hk1 hW1 hne
    go_wp2_with fail
    go_ret
    exact ⟨rfl,by rw [Int.toNat_natCast];exact adf.out,aJ.out⟩
 ·rw [decide_eq_false hn] at HM
  have HE:Hid (fK size W n inn=false):=by rw [Hid,fK,decide_eq_false hn];rfl
  have HL:Hid (ig size W n inn=W):=by rw [Hid,ig,if_neg (by rw [HE.out];decide)]
  rw [HE.out,HL.out]
  clear h hn HE HL HH
  go_enter func163,ntmps163
  go_wp2_with (go_at_call 95;refine HM.out.mono ?_;rintro e w1 ⟨rfl,rfl⟩)
  go_ret
  exact ⟨rfl,HS.out,Keep.refl _ _⟩
theorem Ld (n:Nat) (hn:n<=2097152) (w:World):Calls ay 111 #[ah (n:Int)] w fun e w'=>∃ B X,e = .returned (.tuple #[aj B,ah 0])/\fH w' B X n (List.replicate ((n+63)/64) 0)/\w.heap.size<=B/\w.heap.size<=X/\Keep none_ w w':=by
 obtain ⟨L,hL⟩:∃ L,L=(n+63)/64:=⟨_,rfl⟩
 rw [<- hL]
 have hLl:L<=32768:=by omega
 go_enter func111,ntmps111
 have hmk:∀ w:World,(Instr.makeSlice 147 (ah (((n:Int)+64 - 1)/64)) (ah (((n:Int)+64 - 1)/64))).run ay w = .ok (.slice (some ⟨w.heap.size,0,none⟩) L L) (w.alloc (.cells (zeros (.int .u64 0) L).toArray 146)) :=
  fun w=>run_mk (P:=ay) (by kernel_rfl) Tryz.infoU rfl (by decide) L (by omega) _ (by omega) w
 have HL:=au hL
 clear hL
 go_wp2_with fail
 obtain ⟨W1,hW1⟩:∃ W',W'=(w.alloc (.cells (zeros (.int .u64 0) L).toArray 146)).alloc (.cells #[.slice (some ⟨w.heap.size,0,none⟩) L L,ah (n:Int)] 149):=⟨_,rfl⟩
 rw [<- hW1]
 go_ret2
 have hz:zeros (.int .u64 0) L=jf (List.replicate L 0):=by simp [zeros,jf]
 refine ⟨w.heap.size+1,w.heap.size,rfl,⟨⟨L,?_⟩,⟨jf (List.replicate L 0),?_,fun _ _ h=>h⟩,by rw [List.length_replicate];exact HL.out,fun x hx=>by rw [List.eq_of_mem_replicate hx];decide,hn⟩,by omega,Nat.le_refl _,?_⟩
 ·rw [hW1]
  have h:=aA.new (w.alloc (.cells (zeros (.int .u64 0) L).toArray 146)) [.slice (some ⟨w.heap.size,0,none⟩) L L,ah (n:Int)] 149
  rw [World.size_alloc] at h
  simpa using h
 ·rw [hW1,hz]
  exact (aA.new w _ _).alloc _
 ·rw [hW1]
  exact ((Keep.refl _ _).alloc _).alloc _
end
end
end Go.Proofs.YtanfphjoebobaaaGreatDoor
