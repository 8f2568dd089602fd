/- Parts of a walk, put together and made shorter by a small program of mine. No conditions but those that each theorem names. -/
import Derived.Test.YtanfphjoebobaaaGreatDoorZzraf
import Derived.Test.YtanfphjoebobaaaGreatDoorZzrh
import Derived.Test.YtanfphjoebobaaaGreatDoorZzrl
import Derived.Test.YtanfphjoebobaaaGreatDoorZzrae
import Derived.Test.YtanfphjoebobaaaGreatDoorZzrab
import Derived.Test.YtanfphjoebobaaaGreatDoorZzrad
namespace Go.Proofs.YtanfphjoebobaaaGreatDoor
section
open Go.RowKit
attribute [local go_sem] Oper.semAt_some
attribute [local go_sem ↓] app9_of
structure ClI (w:World) (N1 oB:Nat) (l:List Nat) (j:Nat) (W:World):Prop where
 keep:Keep none_ w W
 big:N1≤W.heap.size
 o:∃ v,Blk W oB [v] 32∧W.ownsRow N1 3 1 v j (tabV (l.take j))
section
variable {w W W':World} {N1 oB j:Nat} {l:List Nat}
theorem ClI.own (hw:w.heap.size≤N1):OwnFrom N1 (ClI w N1 oB l):=by
 rintro s W W' row ⟨h1,h2,v,h3,h4⟩ hg hr
 refine ⟨ownFrom_keep (β:=Nat) hw s W W' row h1 hg hr,Nat.le_trans h2 hg.size,v,ownFrom_blk (β:=Nat) (cs:=fun _=>_) s W W' row h3 hg hr,?_⟩
 refine own_keep (S:=fun i=>row=some i) h4 ⟨hg.os,hg.tape,hg.output,hg.size,fun k hk n=>hg.block k hk (fun e=>n e.symm)⟩ (fun g hg' e=>?_)
 obtain ⟨_,o,ho,hc⟩:=hr g e
 obtain ⟨cur,hcur⟩:=own_cells (own_low h4 (Nat.zero_le _)) hg'
 rw [hcur] at ho
 cases ho
 simp [Obj.isCells] at hc
end
set_option maxRecDepth 100000 in
set_option maxHeartbeats 4000000 in
theorem appSeq_any (gf:Nat) (lb:Array Value) (l:List Nat) (Ts:List TypeId) (ht1:Ts.contains 3=false) (ht2:Ts.contains 32=false) (hl:l.length≤4000000) (w:World) (eg:∀ args w,(callFunc gf args).run Tryz.prog w = .ok (.enter gf args) w)
 (hseq:∀ W,Keep none_ w W→SeqR Fence.wide 8 Tryz.prog gf lb l EncN (HoldT Ts w.heap.size) W) :
 Calls Tryz.prog 86 #[.slice none 0 0,.func (.func gf) #[] lb] w fun e w'=>∃ v,e = .returned v∧w'.ownsRow w.heap.size 3 1 v l.length (tabV l)∧Keep none_ w w':=by
 obtain ⟨W0,hW0⟩:∃ W',W'=w.alloc (.cells #[.slice none 0 0] 32):=⟨_,rfl⟩
 have hk0:Keep none_ w W0:=by rw [hW0];exact (Keep.refl _ _).alloc _
 have hb0:Blk W0 w.heap.size [.slice none 0 0] 32:=by rw [hW0];exact Blk.new w _ _
 have hs0:W0.heap.size=w.heap.size+1:=by rw [hW0];simp
 have HSQ:=Lib.hid (hseq W0 hk0)
 have HI0:Hid (ClI w W0.heap.size w.heap.size l 0 W0):=⟨hk0,Nat.le_refl _,_,hb0,⟨rfl,.inl ⟨rfl,rfl⟩⟩⟩
 have HS0:Hid (w.heap.size<W0.heap.size):=by unfold Hid;omega
 have HL:=Lib.hid hl
 have HT1:=Lib.hid ht1
 have HT2:=Lib.hid ht2
 have HW0:=Lib.hid hW0
 clear hseq hk0 hb0 hs0 hW0 hl ht1 ht2
 refine (callsIn_wide (n:=9)).1 ?_
 refine callsIn_of_wp_marks Tryz.func86 rfl trivial ?_ rfl
 refine wpIn_wide.2 ?_
 simp only [Tryz.ntmps86,List.size_toArray,List.length_cons,List.length_nil,Nat.reduceAdd,Nat.reduceSub,Array.replicate_succ,Array.replicate_zero,List.push_toArray,List.append_toArray,List.nil_append,List.cons_append]
 go_wp2_with fail
 rw [← HW0.out]
 refine wpIn_wide (n:=9) |>.1 ?_
 refine rangeFnR rfl (by decide) (gf:=gf) (lb:=lb) rfl trivial eg (all:=l) (Enc:=EncN) (R:=HoldT Ts w.heap.size) (N:=w.heap.size) (Nat.le_of_lt HS0.out) (HoldT.rel _ _)
  HSQ.out ?hps (fun j W=>ClI w W0.heap.size w.heap.size l j W) (fun _ _ _=>False) ?hI ?hIx ?h0 ?round ?done ?stop
 case hI=>exact ClI.own (Nat.le_of_lt HS0.out)
 case hIx=>exact fun c s W W' row h hg hr=>h
 case h0=>exact HI0.out
 case hps =>
  rintro W x args h
  rw [h];rfl
 case stop=>exact fun D c k W hD hk h=>h.elim
 case round =>
  rintro q j x args W hx henc hI
  have hj:j<l.length:=(List.getElem?_eq_some_iff.1 hx).1
  obtain rfl:args=#[.int .i64 (x:Int)]:=henc
  have HSN:Hid (l.take (j+1)=l.take j++[x]):=by unfold Hid;rw [List.take_add_one,hx];rfl
  have HJ:=Lib.hid hj
  have HI:=Lib.hid hI
  clear hI hx hj
  gi_wp2_with fail
  refine ⟨fun W=>ClI w W0.heap.size w.heap.size l j W,KeepsFrom.refl _ _,HoldT.refl _ _ _,HI.out,(fun _ W' W'' row h hg hr=>ClI.own (Nat.le_of_lt HS0.out) j W' W'' row h hg hr),?_⟩
  clear HI
  rintro w3 hI
  obtain ⟨v,hbo,hrow⟩:=hI.o
  have HI3:=Lib.hid hI
  obtain ⟨W4,hW4⟩:∃ W',W'=w3.alloc (.cells #[.int .i64 (x:Int)] 3):=⟨_,rfl⟩
  have hk4:Keep none_ w3 W4:=by rw [hW4];exact (Keep.refl _ _).alloc _
  obtain ⟨g,cap,w5,hrun,hown,hgr,hwh⟩:=app_where (P:=Tryz.prog) W4 32 32 3 (by kernel_rfl) Tryz.infoInt rfl (own_low (own_still hrow hk4) (Nat.zero_le _)) (N:=w3.heap.size) (u := .int .i64 (x:Int)) (by rw [hW4];exact (Blk.new w3 _ _).cell 0 rfl) rfl (by decide) (by have:=HL.out;have:=HJ.out;omega)
  have hrun9:(app9 #[32,32] 32 #[v,.slice (some ⟨w3.heap.size,0,none⟩) 1 1]).run Tryz.prog (w3.alloc (.cells #[.int .i64 (x:Int)] 3)) = .ok (.slice (some ⟨g,0,none⟩) (j+1) cap) w5:=by rw [← hW4];exact hrun
  have cO:=hbo.cell 0 (v:=v) rfl
  have hne:v.ownBlock≠some w.heap.size:=own_ne hbo hrow (by decide)
  have hbo5:=(hk4.blk hbo (fun f=>f)).grown hgr hne
  have cO4:∀ o,(w3.alloc o).cell? ⟨w.heap.size,0,none⟩=some v:=fun o=>(hbo.alloc o).cell 0 rfl
  have cO5:=hbo5.cell 0 (v:=v) rfl
  have fO5:=hbo5.free 0
  have hge:∀ q,v.ownBlock=some q→W0.heap.size≤q:=fun q hq=>(World.ownsRow.lt hrow q hq).1
  have hge':W0.heap.size≤g:=by
   rcases hwh with h|h
   ·exact hge g h
   ·have h1:=HI3.out.big;have h2:=hk4.size;omega
  have HEND:Hid (ClI w W0.heap.size w.heap.size l (j+1) (w5.setCell ⟨w.heap.size,0,none⟩ (.slice (some ⟨g,0,none⟩) (j+1) cap))∧KeepsFrom W0.heap.size w3 (w5.setCell ⟨w.heap.size,0,none⟩ (.slice (some ⟨g,0,none⟩) (j+1) cap))∧HoldT Ts w.heap.size w3 (w5.setCell ⟨w.heap.size,0,none⟩ (.slice (some ⟨g,0,none⟩) (j+1) cap))):=by
   have hk5:Keep none_ w w5:=(HI3.out.keep.trans hk4).grew (own_still hrow hk4) (Nat.le_of_lt HS0.out) hgr
   have h01:=HS0.out
   have hneq:∀ q,q<W0.heap.size→v.ownBlock≠some q:=fun q hq e=>by have:=hge q e;omega
   refine ⟨⟨hk5.putNew (Nat.le_refl _) _ _,?_,.slice (some ⟨g,0,none⟩) (j+1) cap,hbo5.set 0 _,?_⟩,?_,?_,fun b hb=>?_,fun b cs T hT hb=>?_⟩
   ·have h1:=HI3.out.big;have h2:=hk4.size;have h3:=hgr.size;simp;omega
   ·have e:tabV (l.take (j+1))=tabV (l.take j)++[.int .i64 (x:Int)]:=by rw [HSN.out];simp [tabV]
    rw [e]
    exact own_up (own_other (a:=⟨w.heap.size,0,none⟩) hown (fun q hq=>by simp [Value.ownBlock] at hq;show q≠w.heap.size;omega) _) hge'
   ·refine (KeepsFrom.ofKeep hk4).trans (KeepsFrom.trans (Y:=w5) ⟨hgr.size,fun q o hB hq ho=>(hgr.block q (Array.getElem?_eq_some_iff.1 hq).1 (fun e=>?_)).trans hq⟩ ((KeepsOthers.setCell _ _ _).from _))
    obtain ⟨cur,hcur⟩:=own_cells (own_low (own_still hrow hk4) (Nat.zero_le _)) e.symm
    rw [hcur] at hq
    cases hq
    simp [Obj.isCells] at ho
   ·have h2:=hk4.size;have h3:=hgr.size;simp;omega
   ·have hb3:b<w3.heap.size:=by have:=HI3.out.big;omega
    rw [Below.heap_setCell _ _ _ _ (by simp;omega),hgr.block b (Nat.lt_of_lt_of_le hb3 hk4.size) (fun e=>hneq b (by omega) e.symm)]
    exact hk4.block b hb3 (fun f=>f)
   ·have hT1:=HT1.out
    have hT2:=HT2.out
    have n1:T≠3:=fun e=>by rw [e] at hT;rw [hT] at hT1;cases hT1
    have n2:T≠32:=fun e=>by rw [e] at hT;rw [hT] at hT2;cases hT2
    have hb4:=hk4.blk hb (fun f=>f)
    have hb5:Blk w5 b cs T:=hb4.grown hgr (own_ne hb4 (own_still hrow hk4) (Ne.symm n1))
    refine hb5.other (fun e=>n2 ?_) _
    rw [e] at hb5
    exact (hb5.uniq hbo5).2
  clear hge hge' hne hbo hbo5 hgr hown hwh hrun hk4 hrow hW4 hI
  gi_wp2_with fail
  exact ⟨HEND.out.2.1,HEND.out.2.2,HEND.out.1⟩
 case done =>
  rintro D W hD hI hKd
  obtain ⟨v,hbo,hrow⟩:=hI.o
  rw [List.take_length] at hrow
  have cO:=hbo.cell 0 (v:=v) rfl
  have hKp:=hI.keep.takeDeferred (D:=D) (by have:=HS0.out;omega) (.deferred none)
  have HROW:=Lib.hid hrow
  clear hrow
  go_wp2_with fail
  refine ⟨by simp,.inl ⟨_,_,rfl,run_takeDeferred hKd,?_⟩⟩
  refine ⟨v,by simp [results,Tryz.f86,go_sem],v,rfl,own_low (own_keep (S:=fun i=>i=D) HROW.out ⟨rfl,rfl,rfl,by simp,fun q _ n=>World.putObj_heap_other n⟩ (fun q hq e=>?_)) (Nat.le_of_lt HS0.out),hKp⟩
  obtain ⟨cur,hcur⟩:=own_cells (own_low HROW.out (Nat.zero_le _)) hq
  rw [e,hKd] at hcur
  cases hcur
set_option maxRecDepth 4000 in
theorem collect_any (gf:Nat) (lb:Array Value) (l:List Nat) (Ts:List TypeId) (ht1:Ts.contains 3=false) (ht2:Ts.contains 32=false) (hl:l.length≤4000000) (w:World) (eg:∀ args w,(callFunc gf args).run Tryz.prog w = .ok (.enter gf args) w)
 (hseq:∀ W,Keep none_ w W→SeqR Fence.wide 8 Tryz.prog gf lb l EncN (HoldT Ts w.heap.size) W) :
 Calls Tryz.prog 46 #[.func (.func gf) #[] lb] w fun e w'=>∃ v,e = .returned v∧w'.ownsRow w.heap.size 3 1 v l.length (tabV l)∧Keep none_ w w':=by
 have HA:=Lib.hid (appSeq_any gf lb l Ts ht1 ht2 hl w eg hseq)
 clear hseq hl
 go_enter Tryz.func46,Tryz.ntmps46
 go_wp2_with fail
 refine HA.out.mono ?_
 rintro e w1 ⟨v,rfl,h1,k1⟩
 have HE:=Lib.hid (And.intro h1 k1)
 clear h1 k1 HA
 go_wp2_with fail
 go_ret
 exact ⟨v,rfl,HE.out.1,HE.out.2⟩
end
section
open Go.RowKit
attribute [local go_sem] Oper.semAt_some
def HS.objs (H:HS):List Nat:=setL H.bn H.sz
section
variable {w w':World} {D:Nat→Nat} {H:HS}
theorem setL_congr {s s':Nat→Bool} {size:Nat} (h:∀ k,k<size→s k=s' k):setL s size=setL s' size:=List.filter_congr (fun x hx=>h x (List.mem_range.1 hx))
set_option maxRecDepth 8000 in
theorem collSet_any {B X size:Nat} {s:Nat→Bool} (h:SetF w B X size s) (h1:1≤size) (hT:TabB w):∀ W,W=w.alloc (.cells #[.pointer (some ⟨B,0,none⟩)] 99)→Calls Tryz.prog 46 #[.func (.func 87) #[] #[.pointer (some ⟨w.heap.size,0,none⟩)]] W fun e w'=>∃ v,e = .returned v∧w'.ownsRow w.heap.size 3 1 v (setL s size).length (tabV (setL s size))∧Keep none_ w w':=by
 intro W hW
 obtain ⟨ws,hs,hb⟩:=h
 have hk:Keep none_ w W:=by rw [hW];exact (Keep.refl _ _).alloc _
 have hp:Blk W w.heap.size [.pointer (some ⟨B,0,none⟩)] 99:=by rw [hW];exact Blk.new w _ _
 have e:setL (bitL ws) size=setL s size:=setL_congr (fun k hk=>by
  rw [← hb k]
  unfold hasP
  rw [decide_eq_true (by omega),Bool.true_and,Int.toNat_natCast])
 have hsz:=hs.sz
 have hdB:1<w.heap.size:=World.block_lt_of_cell? _ _ (hT 0 (by decide))
 have hl:=setL_len s size
 refine (collect_any 87 #[.pointer (some ⟨w.heap.size,0,none⟩)] (setL s size) setTs (by decide) (by decide) (by omega) W (fun args w=>by simp [callFunc,Tryz.func87,go_sem];rfl) (fun V hV=>?_)).mono ?_
 ·rw [← e]
  exact all_seq ((hs.still hk).still hV) h1 ((hT.still hk).still hV) (Nat.lt_of_lt_of_le hdB hk.size) w.heap.size (hV.blk hp (fun f=>f)) 8
 ·rintro e w' ⟨v,rfl,h2,k2⟩
  exact ⟨v,rfl,own_low h2 hk.size,hk.trans k2⟩
set_option maxRecDepth 8000 in
theorem hObjects_any (h:HeapAt w D H) (hT:TabB w):Calls Tryz.prog 23 #[.pointer (some ⟨D 0,0,none⟩)] w fun e w'=>∃ v,e = .returned v∧w'.ownsRow w.heap.size 3 1 v H.objs.length (tabV H.objs)∧Keep none_ w w':=by
 have c3:=h.blk.cell 3 rfl
 have HC:=Lib.hid (collSet_any h.born (by show 1≤H.b*H.ww+1;omega) hT)
 unfold HS.objs
 generalize setL H.bn H.sz=l at *
 clear h hT
 go_enter Tryz.func23,Tryz.ntmps23
 go_wp2_with fail
 refine (bAll_w _ _).mono ?_
 rintro e w1 ⟨rfl,hw⟩
 have HC1:=Lib.hid (HC.out w1 hw)
 clear HC hw c3
 go_wp2_with fail
 refine HC1.out.mono ?_
 rintro e w2 ⟨v,rfl,h1,k1⟩
 have HE:=Lib.hid (And.intro h1 k1)
 clear h1 k1 HC1
 go_wp2_with fail
 go_ret
 exact ⟨v,rfl,HE.out.1,HE.out.2⟩
end
end
section
open Go.RowKit
attribute [local go_sem] Oper.semAt_some
structure U8s (w:World) (a:Option Addr) (n:Nat) (l:List Nat):Prop where
 at_:IntCells .u8 w a n (l.map fun x:Nat=>(x:Int))
 lt:∀ x∈l,x<256
theorem U8s.len {w:World} {a:Option Addr} {n:Nat} {l:List Nat} (h:U8s w a n l):l.length=n:=by
 have:=h.at_.len
 simpa using this
theorem U8s.still {w w':World} {a:Option Addr} {n:Nat} {l:List Nat} (h:U8s w a n l) (k:Keep none_ w w'):U8s w' a n l:=⟨h.at_.below k,h.lt⟩
theorem getD_map {l:List Nat} {j:Nat} (hj:j<l.length):(l.map fun x:Nat=>(x:Int)).getD j 0=(l.getD j 0:Int):=by
 rw [List.getD_eq_getElem?_getD,List.getD_eq_getElem?_getD,List.getElem?_map,List.getElem?_eq_getElem hj]
 rfl
theorem U8s.cell {w:World} {a:Option Addr} {n:Nat} {l:List Nat} (h:U8s w a n l) {j:Nat} (hj:j<n):∃ b off,a=some ⟨b,off,none⟩∧w.cell? ⟨b,off+j,none⟩=some (.int .u8 (l.getD j 0:Int))∧l.getD j 0<256:=by
 have hl:=h.len
 obtain ⟨b,off,e,hc⟩:=h.at_.at_ (by omega)
 refine ⟨b,off,e,?_,?_⟩
 ·rw [hc j hj,getD_map (by omega)]
 ·refine h.lt _ ?_
  rw [List.getD_eq_getElem?_getD,List.getElem?_eq_getElem (by omega)]
  exact List.getElem_mem _
abbrev Nums (w:World) (a:Option Addr) (n:Nat) (l:List Nat):Prop:=IntCells .i64 w a n (l.map fun x:Nat=>(x:Int))
theorem Nums.cell {w:World} {a:Option Addr} {n:Nat} {l:List Nat} (h:Nums w a n l) {j:Nat} (hj:j<n):∃ b off,a=some ⟨b,off,none⟩∧w.cell? ⟨b,off+j,none⟩=some (.int .i64 (l.getD j 0:Int)):=by
 have hl:l.length=n:=by have:=h.len;simpa using this
 obtain ⟨b,off,e,hc⟩:=h.at_ (by omega)
 exact ⟨b,off,e,by rw [hc j hj,getD_map (by omega)]⟩
def someP (all:List Nat) (n:Nat):Nat:=if all=[]∨n%5=0 then 0 else all.getD (n/5%all.length) 0
section
variable {w w':World} {a:Option Addr} {c:Nat}
set_option maxRecDepth 4000 in
set_option maxHeartbeats 1000000 in
theorem some_any (all:List Nat) (h:Nums w a all.length all) (n:Nat) (hn:n<256):Calls Tryz.prog 73 #[.slice a all.length c,.int .u8 (n:Int)] w fun e w'=>e = .returned (.int .i64 (someP all n:Int))∧w=w':=by
 have hm:(n:Int).tmod 5=((n%5:Nat):Int):=by rw [Int.tmod_eq_emod_of_nonneg (by omega)];omega
 by_cases h0:all=[]
 ·have e:someP all n=0:=by unfold someP;rw [if_pos (.inl h0)]
  rw [e]
  subst h0
  clear h
  go_enter Tryz.func73,Tryz.ntmps73
  go_wp2_with fail
  go_ret
  exact ⟨rfl,rfl⟩
 ·have hpos:0<all.length:=List.length_pos_iff.2 h0
  have d0:((all.length:Int)==0)=false:=by simp;omega
  by_cases h5:n%5=0
  ·have e:someP all n=0:=by unfold someP;rw [if_pos (.inr h5)]
   rw [e]
   have hm2:(n:Int).tmod 5=0:=by rw [hm,h5];rfl
   have hm3:(n:Int)%5=0:=by omega
   generalize all.length=L at *
   clear h hm h5
   go_enter Tryz.func73,Tryz.ntmps73
   go_wp2_with fail
   go_ret
   exact ⟨rfl,rfl⟩
  ·have e:someP all n=all.getD (n/5%all.length) 0:=by unfold someP;rw [if_neg (by intro hh;exact hh.elim h0 h5)]
   rw [e]
   obtain ⟨b,off,rfl,hc⟩:=h.cell (j:=n/5%all.length) (Nat.mod_lt _ hpos)
   generalize all.getD (n/5%all.length) 0=r at *
   have hq:(n:Int).tdiv 5=((n/5:Nat):Int):=by rw [Int.tdiv_eq_ediv_of_nonneg (by omega)];omega
   have hq2:(n:Int)/5=((n/5:Nat):Int):=by omega
   have hr:((n/5:Nat):Int).tmod (all.length:Int)=((n/5%all.length:Nat):Int):=by rw [Int.tmod_eq_emod_of_nonneg (by omega)];simp
   have hr2:((n/5:Nat):Int)%(all.length:Int)=((n/5%all.length:Nat):Int):=by simp
   have hlt:n/5%all.length<all.length:=Nat.mod_lt _ hpos
   have hx5:((n%5:Nat):Int)≠0:=by omega
   have hm3:((n:Int)%5==0)=false:=by simp;omega
   have hm4:((n:Int).tmod 5==0)=false:=by rw [hm];simp;omega
   have hn51:n/5<256:=by omega
   generalize n/5=m at *
   generalize m%all.length=j at *
   have hjI:(j:Int)<(all.length:Int):=by omega
   have hj0:(0:Int)≤(j:Int):=by omega
   have hL0:¬ (all.length:Int)=0:=by omega
   generalize all.length=L at *
   go_enter Tryz.func73,Tryz.ntmps73
   go_wp2_with fail
   go_ret
   exact ⟨rfl,rfl⟩
end
end
section
open Go.RowKit
attribute [local go_sem] Oper.semAt_some
def mkAll (H:HS) (sz:List Nat):HS:=sz.foldl (fun H z=>(H.makeP (z%4) 0).2) H
theorem mkAll_succ (H:HS) (sz:List Nat) (j:Nat) (hj:j<sz.length):mkAll H (sz.take (j+1))=((mkAll H (sz.take j)).makeP (sz.getD j 0%4) 0).2:=by
 unfold mkAll
 rw [List.take_add_one,List.getElem?_eq_getElem hj,List.foldl_append,List.getD_eq_getElem?_getD,List.getElem?_eq_getElem hj]
 rfl
def fillO (all fl:List Nat) (a:Nat) (p:HS × Nat):Nat→HS × Nat
 | 0=>p
 | f+1=>if (fillO all fl a p f).2<fl.length then ((fillO all fl a p f).1.storeP a (f:Int) (someP all (fl.getD (fillO all fl a p f).2 0)),(fillO all fl a p f).2+1) else fillO all fl a p f
def fillA (all fl:List Nat) (p:HS × Nat):Nat→HS × Nat
 | 0=>p
 | i+1=>fillO all fl (all.getD i 0) (fillA all fl p i) ((fillA all fl p i).1.fieldsP (all.getD i 0)).1
def setAll (all ce:List Nat) (H:HS):Nat→HS
 | 0=>H
 | i+1=>(setAll all ce H i).setP (i:Int) (someP all (ce.getD i 0))
def laidP (H:HS) (sz fl ce:List Nat):HS:=setAll (mkAll H sz).objs ce (fillA (mkAll H sz).objs fl (mkAll H sz,0) (mkAll H sz).objs.length).1 ce.length
theorem fillO_stop {all fl:List Nat} {a:Nat} {p:HS × Nat} {f:Nat} (h:¬ (fillO all fl a p f).2<fl.length):∀ d,fillO all fl a p (f+d)=fillO all fl a p f
 | 0=>rfl
 | d+1=>by
   have e:=fillO_stop h d
   show (if (fillO all fl a p (f+d)).2<fl.length then _ else fillO all fl a p (f+d))=_
   rw [e,if_neg h]
theorem fillO_le {all fl:List Nat} {a:Nat} {p:HS × Nat} (h:p.2≤fl.length):∀ f,(fillO all fl a p f).2≤fl.length
 | 0=>h
 | f+1=>by
   show (if (fillO all fl a p f).2<fl.length then _ else fillO all fl a p f).2≤_
   split
   ·assumption
   ·exact fillO_le h f
theorem fillA_le {all fl:List Nat} {p:HS × Nat} (h:p.2≤fl.length):∀ i,(fillA all fl p i).2≤fl.length
 | 0=>h
 | i+1=>fillO_le (fillA_le h i) _
theorem fields_le (H:HS) (a:Nat):(H.fieldsP a).1≤100:=by
 unfold HS.fieldsP
 split
 ·unfold HS.nf HS.hdr
  cases hh:hdP (H.word a) with
  | none=>exact Nat.zero_le _
  | some cf =>
    obtain ⟨c,f⟩:=cf
    obtain ⟨⟨hc,hf⟩,_⟩:=hdP_some hh
    show f≤100
    have:2^(c+1)≤2^4:=Nat.pow_le_pow_right (by decide) (by omega)
    omega
 ·exact Nat.zero_le _
section
variable {w w':World} {D:Nat→Nat} {H:HS} {a1 a2 a3 a4:Option Addr} {n1 n2 n3 n4 p1 p2 p3 p4:Nat}
theorem byte_rem {z:Nat}:∃ r:Nat,(z:Int).tmod 4=(r:Int)∧(z:Int)%4=(r:Int)∧r=z%4∧r≤3 :=
 ⟨z%4,by rw [Int.tmod_eq_emod_of_nonneg (by omega)];omega,by omega,rfl,by omega⟩
set_option maxRecDepth 8000 in
set_option maxHeartbeats 8000000 in
theorem laid_any (h:HeapAt w D H) (hT:∀ W,Keep (HF D) w W→TabB W) (c0 c1 c2 c3 c4 c5 c6:Int) (sz fl ce:List Nat)
 (h1:∀ W,Keep (HF D) w W→U8s W a1 n1 sz) (h2:∀ W,Keep (HF D) w W→U8s W a2 n2 fl) (h3:∀ W,Keep (HF D) w W→U8s W a3 n3 ce) (m1:n1≤30) (m2:n2≤100) (m3:n3≤20) :
 Calls Tryz.prog 40 #[.pointer (some ⟨D 0,0,none⟩),.agg #[.int .i64 c0,.int .i64 c1,.int .i64 c2,.int .i64 c3,.int .i64 c4,.int .i64 c5,.int .i64 c6,.slice a1 n1 p1,.slice a2 n2 p2,.slice a3 n3 p3,.slice a4 n4 p4]] w
  fun e w'=>∃ v,e = .returned v∧w'.ownsRow w.heap.size 3 1 v (mkAll H sz).objs.length (tabV (mkAll H sz).objs)∧HeapAt w' D (laidP H sz fl ce)∧Keep (HF D) w w'∧(mkAll H sz).objs.length≤1048577:=by
 have hD:=h.ltD
 have l1:=(h1 w (Keep.refl _ _)).len
 have l2:=(h2 w (Keep.refl _ _)).len
 have l3:=(h3 w (Keep.refl _ _)).len
 obtain ⟨W0,hW0⟩:∃ W',W'=w.alloc (.cells #[.int .i64 c0,.int .i64 c1,.int .i64 c2,.int .i64 c3,.int .i64 c4,.int .i64 c5,.int .i64 c6,.slice a1 n1 p1,.slice a2 n2 p2,.slice a3 n3 p3,.slice a4 n4 p4] 26):=⟨_,rfl⟩
 have k0:Keep none_ w W0:=by rw [hW0];exact (Keep.refl _ _).alloc _
 have k0F:Keep (HF D) w W0:=k0.mono (fun _ _ f=>f.elim)
 have hb:Blk W0 w.heap.size [.int .i64 c0,.int .i64 c1,.int .i64 c2,.int .i64 c3,.int .i64 c4,.int .i64 c5,.int .i64 c6,.slice a1 n1 p1,.slice a2 n2 p2,.slice a3 n3 p3,.slice a4 n4 p4] 26:=by rw [hW0];exact Blk.new w _ _
 have HBX:Hid (∀ W,Keep (HF D) W0 W→W.cell? ⟨w.heap.size,7,none⟩=some (.slice a1 n1 p1)∧W.cell? ⟨w.heap.size,8,none⟩=some (.slice a2 n2 p2)∧W.cell? ⟨w.heap.size,9,none⟩=some (.slice a3 n3 p3)):=fun W hW=>by
  have hb':=hW.blk hb (fun hh=>by obtain ⟨i,hi,e⟩:=hh;have:=hD i hi;omega)
  exact ⟨hb'.cell 7 rfl,hb'.cell 8 rfl,hb'.cell 9 rfl⟩
 have HI0:Hid (HeapAt W0 D (mkAll H (sz.take 0))∧Keep (HF D) W0 W0):=⟨h.still k0,Keep.refl _ _⟩
 have HMK:Hid (∀ W j,j<n1→HeapAt W D (mkAll H (sz.take j))∧Keep (HF D) W0 W→∃ b off z,a1=some ⟨b,off,none⟩∧W.cell? ⟨b,off+j,none⟩=some (.int .u8 ((z:Nat):Int))∧z<256∧Calls Tryz.prog 71 #[.pointer (some ⟨D 0,0,none⟩),.int .i64 ((z%4:Nat):Int),.int .i64 0] W fun e w'=>(∃ va vb:Int,e = .returned (.tuple #[.int .i64 va,.int .i64 vb]))∧HeapAt w' D (mkAll H (sz.take (j+1)))∧Keep (HF D) W0 w'):=fun W j hj hW=>by
  obtain ⟨b,off,e,hc,hz⟩:=(h1 W (k0F.trans hW.2)).cell hj
  refine ⟨b,off,_,e,hc,hz,(hMake_any hW.1 (sz.getD j 0%4) 0 (by omega) (by decide)).mono ?_⟩
  rintro e w' ⟨hv,g1,g2⟩
  rw [mkAll_succ _ _ _ (by omega)]
  exact ⟨hv,g1,hW.2.trans g2⟩
 have HOB:Hid (∀ W,HeapAt W D (mkAll H (sz.take n1))∧Keep (HF D) W0 W→Calls Tryz.prog 23 #[.pointer (some ⟨D 0,0,none⟩)] W fun e w'=>∃ a c,e = .returned (.slice a (mkAll H sz).objs.length c)∧w'.ownsRow w.heap.size 3 1 (.slice a (mkAll H sz).objs.length c) (mkAll H sz).objs.length (tabV (mkAll H sz).objs)∧HeapAt w' D (mkAll H sz)∧Keep (HF D) W0 w'∧(mkAll H sz).objs.length≤1048577):=fun W hW=>by
  have hh:=hW.1
  rw [show sz.take n1=sz from by rw [← l1];exact List.take_length] at hh
  refine (hObjects_any hh (hT W (k0F.trans hW.2))).mono ?_
  rintro e w' ⟨v,rfl,ho,k⟩
  obtain ⟨a,c,rfl,_⟩:=own_form (own_low ho (Nat.zero_le _))
  refine ⟨a,c,rfl,own_low ho (k0F.trans hW.2).size,hh.still k,hW.2.trans (k.mono (fun _ _ f=>f.elim)),?_⟩
  have h1:=setL_len (mkAll H sz).bn (mkAll H sz).sz
  have h2:=hh.inv.nle
  unfold HS.objs
  unfold HS.sz at h1 ⊢
  omega
 have HFIN:Hid (∀ W p,p=fillA (mkAll H sz).objs fl (mkAll H sz,0) (mkAll H sz).objs.length→HeapAt W D (setAll (mkAll H sz).objs ce p.1 n3)→HeapAt W D (laidP H sz fl ce)):=fun W p e hW=>by
  unfold laidP
  rw [← e,l3]
  exact hW
 have HFI:Hid (fillA (mkAll H sz).objs fl (mkAll H sz,0) 0=(mkAll H sz,0)):=rfl
 have hk0F:=Lib.hid k0F
 clear hb
 generalize mkAll H sz=H1 at *
 generalize hob:H1.objs=objs at *
 have HW0:=Lib.hid hW0
 have HROW:Hid (∀ W a c,W.ownsRow w.heap.size 3 1 (.slice a objs.length c) objs.length (tabV objs)→(Nums W a objs.length objs∧objs.length≤9223372036854775807∧∀ W',Keep (HF D) W W'→W'.ownsRow w.heap.size 3 1 (.slice a objs.length c) objs.length (tabV objs))):=fun W a c ho=>by
  refine ⟨?_,?_,fun W' k=>own_keep ho k (fun b hb hh=>?_)⟩
  ·have e:tabV objs=(objs.map fun x:Nat=>(x:Int)).map (Value.int .i64):=by simp [tabV]
   rw [e] at ho
   obtain ⟨a',c',ee,hi,_⟩:=IntCells.ofOwn' ho
   cases ee
   exact hi
  ·rcases ho.2 with ⟨_,hn⟩|⟨g,cap,cur,_,_,_,hn,hm,_⟩
   ·omega
   ·have:maxLen=9223372036854775807:=rfl
    omega
  ·obtain ⟨i,hi,e⟩:=hh
   have h9:=hD i hi
   rcases ho.2 with ⟨e2,_⟩|⟨g,cap,cur,e2,hg,_⟩
   ·rw [e2] at hb;cases hb
   ·rw [e2] at hb
    have e3:g=b:=by simpa [Value.ownBlock] using hb
    omega
 have HNX:Hid (∀ W p a,HeapAt W D p→Calls Tryz.prog 55 #[.pointer (some ⟨D 0,0,none⟩),.int .i64 ((a:Nat):Int)] W fun e w'=>(∃ er:Int,e = .returned (.tuple #[.int .i64 ((p.fieldsP a).1:Int),.int .i64 er]))∧HeapAt w' D p∧Keep (HF D) W w'):=fun W p a hW=>by
  refine (hFields_any hW a).mono ?_
  rintro e w' ⟨rfl,g1,g2⟩
  exact ⟨⟨_,rfl⟩,g1,g2⟩
 have HST:Hid (∀ W p a f v,HeapAt W D p→Calls Tryz.prog 72 #[.pointer (some ⟨D 0,0,none⟩),.int .i64 ((a:Nat):Int),.int .i64 ((f:Nat):Int),.int .i64 ((v:Nat):Int)] W fun e w'=>(∃ er:Int,e = .returned (.int .i64 er))∧HeapAt w' D (p.storeP a (f:Int) v)∧Keep (HF D) W w'):=fun W p a f v hW=>by
  refine (hStore_any hW a (f:Int) v).mono ?_
  rintro e w' ⟨rfl,g1,g2⟩
  exact ⟨⟨_,rfl⟩,g1,g2⟩
 have HSC:Hid (∀ W p i v,HeapAt W D p→Calls Tryz.prog 74 #[.pointer (some ⟨D 0,0,none⟩),.int .i64 ((i:Nat):Int),.int .i64 ((v:Nat):Int)] W fun e w'=>(∃ er:Int,e = .returned (.int .i64 er))∧HeapAt w' D (p.setP (i:Int) v)∧Keep (HF D) W w'):=fun W p i v hW=>by
  refine (hSetCell_any hW (i:Int) v).mono ?_
  rintro e w' ⟨rfl,g1,g2⟩
  exact ⟨⟨_,rfl⟩,g1,g2⟩
 have HSM:Hid (∀ W a c n,Nums W a objs.length objs→n<256→Calls Tryz.prog 73 #[.slice a objs.length c,.int .u8 ((n:Nat):Int)] W fun e w'=>e = .returned (.int .i64 (someP objs n:Int))∧W=w'):=fun W a c n hn h9=>some_any objs hn n h9
 have H2:Hid (∀ W,Keep (HF D) W0 W→U8s W a2 n2 fl):=fun W k=>h2 W (k0F.trans k)
 have H3:Hid (∀ W,Keep (HF D) W0 W→U8s W a3 n3 ce):=fun W k=>h3 W (k0F.trans k)
 have HEND:Hid (∀ W a c,W.ownsRow w.heap.size 3 1 (.slice a objs.length c) objs.length (tabV objs)→HeapAt W D (laidP H sz fl ce)→Keep (HF D) W0 W→objs.length≤1048577→∃ v,(Ending.returned (.slice a objs.length c)) = .returned v∧W.ownsRow w.heap.size 3 1 v objs.length (tabV objs)∧HeapAt W D (laidP H sz fl ce)∧Keep (HF D) w W∧objs.length≤1048577):=fun W a c g1 g2 g3 g4=>⟨_,rfl,g1,g2,k0F.trans g3,g4⟩
 have hm1:(n1:Int)≤30:=by omega
 have hm2:(n2:Int)≤100:=by omega
 have hm3:(n3:Int)≤20:=by omega
 generalize laidP H sz fl ce=LP at *
 clear h hT h1 h2 h3 k0 k0F hk0F hW0 hD
 go_enter Tryz.func40,Tryz.ntmps40
 go_wp2_with fail
 rw [← HW0.out]
 go_loopw [5] (fun i wr=>∃ j:Nat,j≤n1∧i = .int .i64 j∧HeapAt wr D (mkAll H (sz.take j))∧Keep (HF D) W0 wr) (fun i _=>n1 - (intOf i).toNat)
 case atStart=>exact ⟨0,Nat.zero_le _,rfl,HI0.out⟩
 case round =>
  obtain ⟨j,hj,rfl,hI⟩:=hrel
  obtain ⟨x7,x8,x9⟩:=HBX.out wr hI.2
  by_cases hlt:j<n1
  ·have hltI:(j:Int)<(n1:Int):=by omega
   have hj0:(0:Int)≤(j:Int):=by omega
   obtain ⟨b,off,z,rfl,hz,hz2,hmk⟩:=HMK.out wr j hlt hI
   obtain ⟨r,hr1,hr2,hr3,hr4⟩:=byte_rem (z:=z)
   rw [← hr3] at hmk
   have HMK1:=Lib.hid hmk
   clear hmk hI hr3
   go_wp2_with fail
   refine HMK1.out.mono ?_
   rintro e w2 ⟨⟨va,vb,rfl⟩,g1,g2⟩
   have HI2:Hid (HeapAt w2 D (mkAll H (sz.take (j+1)))∧Keep (HF D) W0 w2):=⟨g1,g2⟩
   clear g1 g2 HMK1 hz x7 x8 x9
   go_wp2_with fail
   go_roundw
   case rel=>exact ⟨j+1,by omega,by go_num,HI2.out⟩
   case measure=>simp [intOf]<;>omega
  ·obtain rfl:j=n1:=by omega
   have hnlt:¬ (j:Int)<(j:Int):=by omega
   have HOB1:=Lib.hid (HOB.out wr hI)
   clear hI hlt HMK HOB
   go_wp2_with fail
   refine HOB1.out.mono ?_
   rintro e w3 ⟨a,c,rfl,ho,g1,g2,hbd⟩
   have HBD:=Lib.hid hbd
   obtain ⟨hnum,hln,hrow⟩:=HROW.out w3 a c ho
   have HO3:=Lib.hid hrow
   have HN3:=Lib.hid HROW.out
   have HI3:Hid (HeapAt w3 D (fillA objs fl (H1,0) 0).1∧Keep (HF D) W0 w3∧Keep (HF D) w3 w3):=⟨g1,g2,Keep.refl _ _⟩
   have HK3:=Lib.hid g2
   clear ho g1 g2 hnum hrow HOB1 x7 x8 x9 hbd
   have HR3:Hid (∀ W,Keep (HF D) w3 W→Nums W a objs.length objs∧W.ownsRow w.heap.size 3 1 (.slice a objs.length c) objs.length (tabV objs)):=fun W k=>⟨(HN3.out W a c (HO3.out W k)).1,HO3.out W k⟩
   clear HN3 HO3
   generalize hL:objs.length=L at *
   go_wp2_with fail
   go_loopw [7,8,9,10,11] (fun kv i nv ev fv wr=>∃ t:Nat,t≤L∧i = .int .i64 t∧kv = .int .i64 ((fillA objs fl (H1,0) t).2:Nat)∧HeapAt wr D (fillA objs fl (H1,0) t).1∧Keep (HF D) w3 wr) (fun kv i nv ev fv _=>L - (intOf i).toNat)
   case atStart=>exact ⟨0,Nat.zero_le _,rfl,rfl,HI3.out.1,HI3.out.2.2⟩
   case round =>
    obtain ⟨t,ht,rfl,rfl,hh,hk⟩:=hrel
    by_cases htL:t<L
    ·have htI:(t:Int)<(L:Int):=by omega
     have ht0:(0:Int)≤(t:Int):=by omega
     have hle:=fillA_le (all:=objs) (fl:=fl) (p:=(H1,0)) (Nat.zero_le _) t
     rw [l2] at hle
     obtain ⟨b,off,rfl,hc⟩:=(HR3.out wr hk).1.cell htL
     have eA:fillA objs fl (H1,0) (t+1)=fillO objs fl (objs.getD t 0) (fillA objs fl (H1,0) t) ((fillA objs fl (H1,0) t).1.fieldsP (objs.getD t 0)).1:=rfl
     have HEA:=Lib.hid eA
     clear eA
     obtain ⟨N,hN⟩:∃ N,N=((fillA objs fl (H1,0) t).1.fieldsP (objs.getD t 0)).1:=⟨_,rfl⟩
     have hN100:N≤100:=by rw [hN];exact fields_le _ _
     have HF1:=HNX.out wr (fillA objs fl (H1,0) t).1 (objs.getD t 0) hh
     rw [← hN] at HF1 HEA
     have HF2:=Lib.hid HF1
     have HKw:=Lib.hid hk
     clear HF1 hN hh
     generalize fillA objs fl (H1,0) t=P at *
     generalize hx:objs.getD t 0=x at *
     go_wp2_with fail
     refine HF2.out.mono ?_
     rintro e w4 ⟨⟨er,rfl⟩,g1,g2⟩
     have HI4:Hid (HeapAt w4 D P.1∧Keep (HF D) w3 w4):=⟨g1,HKw.out.trans g2⟩
     clear g1 g2 HF2 hc hk
     have HRW:Hid (∀ W,Keep (HF D) w3 W→Nums W (some ⟨b,off,none⟩) L objs):=fun W k=>(HR3.out W k).1
     go_wp2_with fail
     go_loopw [7,11] (fun kv fv wr=>∃ f:Nat,f≤N∧fv = .int .i64 f∧kv = .int .i64 ((fillO objs fl x P f).2:Nat)∧HeapAt wr D (fillO objs fl x P f).1∧Keep (HF D) w3 wr) (fun kv fv _=>N - (intOf fv).toNat)
     case atStart=>exact ⟨0,Nat.zero_le _,rfl,rfl,HI4.out⟩
     case round =>
      obtain ⟨f,hf,rfl,rfl,hh,hk⟩:=hrel
      have hq:=fillO_le (all:=objs) (fl:=fl) (a:=x) (p:=P) (by rw [l2];exact hle) f
      rw [l2] at hq
      obtain ⟨_,x8,_⟩:=HBX.out wr (HK3.out.trans hk)
      have hqI:((fillO objs fl x P f).2:Int)≤(n2:Int):=by omega
      by_cases hcond:f<N∧(fillO objs fl x P f).2<n2
      ·obtain ⟨hfN,hkn⟩:=hcond
       have hfI:(f:Int)<(N:Int):=by omega
       have hknI:((fillO objs fl x P f).2:Int)<(n2:Int):=by omega
       have hf0:(0:Int)≤(f:Int):=by omega
       have hk0:(0:Int)≤((fillO objs fl x P f).2:Int):=by omega
       obtain ⟨b2,off2,rfl,hz,hz2⟩:=(H2.out wr (HK3.out.trans hk)).cell hkn
       have eO:fillO objs fl x P (f+1)=((fillO objs fl x P f).1.storeP x (f:Int) (someP objs (fl.getD (fillO objs fl x P f).2 0)),(fillO objs fl x P f).2+1):=by
        show (if (fillO objs fl x P f).2<fl.length then _ else fillO objs fl x P f)=_
        rw [if_pos (by rw [l2];exact hkn)]
       have HEO:=Lib.hid eO
       clear eO
       have HS1:Hid (∀ W,HeapAt W D (fillO objs fl x P f).1→Keep (HF D) wr W→Calls Tryz.prog 72 #[.pointer (some ⟨D 0,0,none⟩),.int .i64 ((x:Nat):Int),.int .i64 ((f:Nat):Int),.int .i64 ((someP objs (fl.getD (fillO objs fl x P f).2 0):Nat):Int)] W fun e w'=>(∃ er:Int,e = .returned (.int .i64 er))∧Hid (HeapAt w' D ((fillO objs fl x P f).1.storeP x (f:Int) (someP objs (fl.getD (fillO objs fl x P f).2 0))))∧Hid (Keep (HF D) wr w')):=fun W hW k=>by
        refine (HST.out W _ x f _ hW).mono ?_
        rintro e w' ⟨hv,g1,g2⟩
        exact ⟨hv,g1,k.trans g2⟩
       have HCELL:Hid (∀ W,Keep (HF D) wr W→W.cell? ⟨w.heap.size,8,none⟩=some (.slice (some ⟨b2,off2,none⟩) n2 p2)∧W.cell? ⟨b,off+t,none⟩=some (.int .i64 ((x:Nat):Int))∧W.cell? ⟨b2,off2+(fillO objs fl x P f).2,none⟩=some (.int .u8 ((fl.getD (fillO objs fl x P f).2 0:Nat):Int))):=fun W k=>by
        obtain ⟨_,_,e2,hc2⟩:=(HRW.out W (hk.trans k)).cell htL
        cases e2
        obtain ⟨_,_,e3,hc3,_⟩:=(H2.out W (HK3.out.trans (hk.trans k))).cell hkn
        cases e3
        rw [hx] at hc2
        exact ⟨(HBX.out W (HK3.out.trans (hk.trans k))).2.1,hc2,hc3⟩
       obtain ⟨y8,yc,yz⟩:=HCELL.out wr (Keep.refl _ _)
       have HSM1:Hid (Calls Tryz.prog 73 #[.slice (some ⟨b,off,none⟩) L c,.int .u8 ((fl.getD (fillO objs fl x P f).2 0:Nat):Int)] wr.drew fun e w'=>e = .returned (.int .i64 (someP objs (fl.getD (fillO objs fl x P f).2 0):Int))∧wr.drew=w'):=HSM.out wr.drew _ c _ (HRW.out _ (hk.trans (Keep.refl (HF D) wr).drew)) hz2
       have HH:Hid (HeapAt wr.drew D (fillO objs fl x P f).1∧Keep (HF D) wr wr.drew):=⟨hh.still (Keep.refl none_ wr).drew,(Keep.refl _ wr).drew⟩
       have HKK:=Lib.hid hk
       clear hh hk hz x8 hz2
       generalize (fillO objs fl x P f).1.storeP x (f:Int) (someP objs (fl.getD (fillO objs fl x P f).2 0))=P2 at *
       generalize someP objs (fl.getD (fillO objs fl x P f).2 0)=v at *
       generalize fl.getD (fillO objs fl x P f).2 0=z at *
       generalize (fillO objs fl x P f).2=kk at *
       generalize (fillO objs fl x P f).1=P1 at *
       go_wp2_with fail
       go_region_held3 (fun W'=>W'.cell? ⟨w.heap.size,8,none⟩=some (.slice (some ⟨b2,off2,none⟩) n2 p2)∧W'.cell? ⟨b,off+t,none⟩=some (.int .i64 ((x:Nat):Int))∧W'.cell? ⟨b2,off2+kk,none⟩=some (.int .u8 ((z:Nat):Int)))
        (first
         | exact ⟨y8,yc,yz⟩
         | exact HCELL.out _ hk5.out
         | exact HCELL.out _ HH.out.2
         | fail "SFAIL")
        (first
         | (go_at_call 73
            refine HSM1.out.mono ?_
            rintro e w5 ⟨rfl,rfl⟩)
         | (go_at_call 72
            refine (HS1.out _ HH.out.1 HH.out.2).mono ?_
            rintro e w5 ⟨⟨er2,rfl⟩,g5,hk5⟩)
         | fail "CFAIL")
       all_goals
        have HI5:Hid (HeapAt w5 D P2∧Keep (HF D) w3 w5):=⟨g5.out,HKK.out.trans hk5.out⟩
        clear g5 hk5 y8 yc yz HS1 HCELL HSM1 HH
        go_wp2_with fail
        go_roundw
        case rel=>exact ⟨f+1,by omega,by go_num,by rw [HEO.out];go_num,by rw [HEO.out];exact HI5.out⟩
        case measure=>simp [intOf]<;>omega
      ·have HST2:Hid (fillO objs fl x P N=fillO objs fl x P f):=by
        by_cases hfN:f<N
        ·have hns:¬ (fillO objs fl x P f).2<fl.length:=by rw [l2];exact fun h9=>hcond ⟨hfN,h9⟩
         have:=fillO_stop hns (N - f)
         rw [show f+(N - f)=N by omega] at this
         exact this
        ·rw [show f=N by omega];rfl
       have HI6:Hid (HeapAt wr D (fillA objs fl (H1,0) (t+1)).1∧Keep (HF D) w3 wr):=by
        rw [HEA.out,HST2.out]
        exact ⟨hh,hk⟩
       have HE6:Hid (fillA objs fl (H1,0) (t+1)=fillO objs fl x P f):=HEA.out.trans HST2.out
       have hcond2:(f<N∧¬ (fillO objs fl x P f).2<n2)∨¬ f<N:=by
        by_cases hfN:f<N
        ·exact .inl ⟨hfN,fun h9=>hcond ⟨hfN,h9⟩⟩
        ·exact .inr hfN
       clear hh hk HST2 HEA hcond
       rcases hcond2 with ⟨hfN,hnk⟩|hfN
       ·have hfI:(f:Int)<(N:Int):=by omega
        have hnkI:¬ ((fillO objs fl x P f).2:Int)<(n2:Int):=by omega
        generalize hkk:(fillO objs fl x P f).2=kk at *
        go_wp2_with fail
        go_roundw
        case rel=>exact ⟨t+1,by omega,by go_num,by rw [HE6.out,hkk],HI6.out⟩
        case measure=>simp [intOf]<;>omega
       ·have hfI:¬ (f:Int)<(N:Int):=by omega
        generalize hkk:(fillO objs fl x P f).2=kk at *
        go_wp2_with fail
        go_roundw
        case rel=>exact ⟨t+1,by omega,by go_num,by rw [HE6.out,hkk],HI6.out⟩
        case measure=>simp [intOf]<;>omega
    ·obtain rfl:t=L:=by omega
     have htI:¬ (t:Int)<(t:Int):=by omega
     have HI7:Hid (HeapAt wr D (setAll objs ce (fillA objs fl (H1,0) t).1 0)∧Keep (HF D) w3 wr):=⟨hh,hk⟩
     have HP7:Hid (∀ W,HeapAt W D (setAll objs ce (fillA objs fl (H1,0) t).1 n3)→HeapAt W D LP):=fun W g=>HFIN.out W _ rfl g
     clear hh hk
     generalize (fillA objs fl (H1,0) t).1=P at *
     generalize (fillA objs fl (H1,0) t).2=kk at *
     go_wp2_with fail
     go_loopw [12] (fun i wr=>∃ y:Nat,y≤n3∧i = .int .i64 y∧HeapAt wr D (setAll objs ce P y)∧Keep (HF D) w3 wr) (fun i _=>n3 - (intOf i).toNat)
     case atStart=>exact ⟨0,Nat.zero_le _,rfl,HI7.out⟩
     case round =>
      obtain ⟨y,hy,rfl,hh,hk⟩:=hrel
      obtain ⟨_,_,x9⟩:=HBX.out wr (HK3.out.trans hk)
      by_cases hyn:y<n3
      ·have hyI:(y:Int)<(n3:Int):=by omega
       have hy0:(0:Int)≤(y:Int):=by omega
       obtain ⟨b3,off3,rfl,hz,hz2⟩:=(H3.out wr (HK3.out.trans hk)).cell hyn
       have HSM1:Hid (Calls Tryz.prog 73 #[.slice a t c,.int .u8 ((ce.getD y 0:Nat):Int)] wr fun e w'=>e = .returned (.int .i64 (someP objs (ce.getD y 0):Int))∧wr=w'):=HSM.out wr a c _ (HR3.out wr hk).1 hz2
       have HS1:Hid (Calls Tryz.prog 74 #[.pointer (some ⟨D 0,0,none⟩),.int .i64 ((y:Nat):Int),.int .i64 ((someP objs (ce.getD y 0):Nat):Int)] wr fun e w'=>(∃ er:Int,e = .returned (.int .i64 er))∧HeapAt w' D (setAll objs ce P (y+1))∧Keep (HF D) w3 w'):=by
        refine (HSC.out wr _ y (someP objs (ce.getD y 0)) hh).mono ?_
        rintro e w' ⟨hv,g1,g2⟩
        exact ⟨hv,g1,hk.trans g2⟩
       clear hh hk hz2
       generalize someP objs (ce.getD y 0)=v at *
       generalize ce.getD y 0=z at *
       go_wp2_with fail
       refine HSM1.out.mono ?_
       rintro e w5 ⟨rfl,rfl⟩
       go_wp2_with fail
       refine HS1.out.mono ?_
       rintro e w6 ⟨⟨er,rfl⟩,g1,g2⟩
       have HI8:Hid (HeapAt w6 D (setAll objs ce P (y+1))∧Keep (HF D) w3 w6):=⟨g1,g2⟩
       clear g1 g2 hz x9 HS1 HSM1
       go_wp2_with fail
       go_roundw
       case rel=>exact ⟨y+1,by omega,by go_num,HI8.out⟩
       case measure=>simp [intOf]<;>omega
      ·obtain rfl:y=n3:=by omega
       have hyI:¬ (y:Int)<(y:Int):=by omega
       have HE:=Lib.hid (HEND.out wr a c (HR3.out wr hk).2 (HP7.out wr hh) (HK3.out.trans hk) HBD.out)
       clear hh hk
       go_wp2_with fail
       go_ret
       exact HE.out
end
end
section
open Go.RowKit
section
variable {o o':Ow} {w w' W W':World} {G:Geo} {g:MG} {q:CG} {s s':Sh} {m:MS} {c:CS} {I:List Nat} {gs:List MG} {x y:WS} {N:Nat}
theorem CW.setH (h:CW w W o G gs q x) (k:Keep (HF G.D) W W') {H:HS} (hH:HeapAt W' G.D H) (hc:H.c=x.s.H.c):CW w W' o G gs q { x with s:={ x.s with H:=H } }∧Keep (In o [1]) W W':=by
 obtain ⟨hs,k1⟩:=h.coll.sh.setHeap k hH h.coll.box8
 refine ⟨⟨h.coll.shareE k1 rfl rfl rfl (OExt.refl _ _) hs rfl,h.len,fun i g m h1 h2=>?_,h.low,h.keep.lowO k1 rfl h.low⟩,k1⟩
 obtain ⟨g1,g2⟩:=h.mut_ i g m h1 h2
 exact ⟨g1.shareE k1 rfl (by simp<;>omega) (by simp<;>omega) (OExt.refl _ _) hs rfl hc,g2⟩
theorem CW.addMut (h:CW w W o G gs q x) (k:Keep none_ W W') (e:OExt W o o') (hm:MutAt o' W' G g x.s m) (hid:m.id=x.muts.length):CW w W' o' G (gs++[g]) q { x with muts:=x.muts++[m] }:=by
 have k0:Keep (In o []) W W':=k.noneO
 refine ⟨h.coll.shareE k0 rfl rfl rfl e hm.sh rfl,by simp [h.len],fun i g' m' h1 h2=>?_,fun b hb=>(e b (Nat.lt_of_lt_of_le hb h.keep.size)).trans (h.low b hb),h.keep.trans k⟩
 have h2':(x.muts++[m])[i]?=some m':=h2
 by_cases hi:i<x.muts.length
 ·rw [List.getElem?_append_left hi] at h2'
  rw [List.getElem?_append_left (by rw [h.len];exact hi)] at h1
  obtain ⟨g1,g2⟩:=h.mut_ i g' m' h1 h2'
  exact ⟨g1.shareE k0 rfl rfl rfl e hm.sh rfl rfl,g2⟩
 ·have hl:=(List.getElem?_eq_some_iff.1 h2').1
  simp at hl
  obtain rfl:i=x.muts.length:=by omega
  rw [List.getElem?_append_right (Nat.le_refl _),Nat.sub_self] at h2'
  rw [List.getElem?_append_right (by rw [h.len];exact Nat.le_refl _),h.len,Nat.sub_self] at h1
  cases h1
  cases h2'
  exact ⟨hm,hid⟩
theorem CK.first {s:Sh} {c:Conf} {n:Nat} (hok:c.ok=true) (hn:c.m=(n:Int)) (hl:s.boxes.length=n) (hq:QOk s) (ho:s.Q.opn=0) (hr:∀ k,s.Q.rw k=[]) (hb:s.B.count=0):Cok 0 s (CS.new c n):=by
 have h:=ok_bounds hok
 refine ⟨⟨hl,⟨by show 1≤n;omega,by show n≤8;omega⟩,?_,?_,⟨?_,?_⟩,Nat.zero_le _,by show 0<2;decide,Nat.le_refl _,Nat.le_refl _,Nat.le_refl _,by omega,hq,fun k=>by rw [hr k];exact Nat.le_refl _,⟨by omega,by omega⟩,Nat.zero_le _⟩,trivial⟩
 ·show c.b.toNat≤4096;omega
 ·show c.c.toNat≤64;omega
 ·show 1≤c.s.toNat;omega
 ·show c.s.toNat≤4096;omega
theorem Pok.moreN {M:Nat} (h:Pok N s m) (hM:N≤M):Pok M s m:=⟨h.color,h.want,Nat.le_trans h.opn hM,Nat.le_trans h.res hM,h.q,Nat.le_trans h.sp hM,h.rl,h.nx⟩
theorem WOk.more {M:Nat} (h:WOk N x) (hM:N≤M):WOk M x :=
 ⟨h.len,fun i m hi=>⟨(h.mut_ i m hi).1,(h.mut_ i m hi).2.moreN hM⟩,⟨h.coll.k.more hM,h.coll.nx⟩,Nat.le_trans h.picks hM,Nat.le_trans h.evs hM⟩
end
end
end Go.Proofs.YtanfphjoebobaaaGreatDoor
