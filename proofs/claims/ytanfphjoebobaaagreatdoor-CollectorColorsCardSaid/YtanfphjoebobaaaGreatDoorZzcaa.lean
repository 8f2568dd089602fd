/- Parts of a walk, put together and made shorter by a program of mine. No conditions. -/
import Derived.Test.YtanfphjoebobaaaGreatDoorZzcx
import Derived.Test.YtanfphjoebobaaaGreatDoorZzcy
import Derived.Test.YtanfphjoebobaaaGreatDoorZzcz
import Derived.Test.YtanfphjoebobaaaGreatDoorZzcr
import Derived.Test.YtanfphjoebobaaaGreatDoorZzcn
namespace Go.Proofs.YtanfphjoebobaaaGreatDoor
set_option maxRecDepth 100000
set_option maxHeartbeats 4000000
section
attribute [local go_sem] Oper.semAt_some
open Go.RowKit
section
variable {o:Ow} {w w':World} {G:Geo} {g:MG} {s:Sh} {m:MS} {nv:Value} {ev:Option Ev}
theorem BU {c:Nat}:∀ l:List Nat,xZ (iJ c l)=true
 | []=>rfl
 | _::l=>BL (BU l)
structure ScI (o:Ow) (w:World) (N M Nt b st want:Nat) (regs:List Nat) (j:Nat) (W:World):Prop where
 keep:Keep none_ w W
 mb:Blk W b [ah M] 56
 big:N≤W.heap.size
 st:∃ fn caps,Blk W st [.func (.func fn) #[] caps] 88∧bH o W Nt M (iJ want (regs.drop (regs.length - j))) (.func (.func fn) #[] caps)
theorem ScI.own {N M Nt b st want:Nat} {regs:List Nat} {B:Nat} (hB:w.heap.size≤B):OwnFrom B (ScI o w N M Nt b st want regs):=by
 rintro j W W' row ⟨h1,h2,hN,fn,caps,h3,h4⟩ hg hr
 refine ⟨ng (β:=Nat) hB j W W' row h1 hg hr,iy (β:=Nat) (cs:=fun _=>_) j W W' row h2 hg hr,Nat.le_trans hN hg.size,fn,caps,iy (β:=Nat) (cs:=fun _=>_) j W W' row h3 hg hr,?_⟩
 exact h4.gen (fun b cs T h5 h6=>⟨h5,iy (β:=Nat) (cs:=fun _=>cs) j W W' row h6 hg hr⟩)
theorem EY (h:MAt o w G g s m ev nv):Calls Tryz.prog 91 #[.pointer (some ⟨g.M,0,none⟩),.int .i64 3] w fun e w'=>∃ fn caps,e = .returned (.func (.func fn) #[] caps)∧bH o w' g.Nt g.M (iJ m.want m.regs) (.func (.func fn) #[] caps)∧Keep none_ w w':=by
 obtain ⟨W1,hW1⟩:∃ W1,W1=w.alloc (.cells #[ah g.M] 56):=⟨_,rfl⟩
 have k1:Keep none_ w W1:=by rw [hW1];exact (Keep.refl _ _).alloc _
 have hb1:Blk W1 w.heap.size [ah g.M] 56:=by rw [hW1];exact Blk.new w _ _
 have ho:o w.heap.size=0:=h.sh.fut _ (Nat.le_refl _)
 have HL:=Lib.hid ((vI (Nt:=g.Nt) (h.sh.fut.keep k1) 3 133 #[.pointer (some ⟨w.heap.size,0,none⟩)] (by unfold ni;rw [if_neg (by decide),if_neg (by decide),if_pos rfl];exact ⟨[w.heap.size],rfl,_,_,rfl,ho,hb1,rfl⟩) w.heap.size ho hb1))
 have P5:Hid (∀ W,Keep none_ w W→W.cell? ⟨g.M,11,none⟩=some (.pointer (some ⟨g.Nt,0,none⟩))∧W.cell? ⟨g.M,14,none⟩=some (.int .i64 (m.want:Int))∧W.cell? ⟨g.M,9,none⟩=some (.slice (some ⟨g.X,0,none⟩) m.regs.length m.regs.length)∧Blk W g.X (aC m.regs) 3∧Fut o W):=fun W hW=>⟨(h.still hW).c11,(h.still hW).c14,(h.still hW).c9,(h.still hW).regs,(h.still hW).sh.fut⟩
 have hr64:=h.rle
 have HXL:Hid (g.X<w.heap.size):=h.regs.lt
 have HW1:=Lib.hid hW1
 have hmf:=gV
 have HK1:=Lib.hid k1
 have HB1:=Lib.hid hb1
 generalize m.want=mw at *
 generalize m.regs=regs at *
 clear h hW1 k1 hb1 ho
 refine (callsIn_wide (n:=9)).1 ?_
 refine callsIn_of_wp_marks Tryz.func91 rfl trivial ?_ rfl
 refine wpIn_wide.2 ?_
 simp only [Tryz.ntmps91,List.size_toArray,List.length_cons,List.length_nil,Nat.reduceAdd,Nat.reduceSub,Array.replicate_succ,Array.replicate_zero,List.push_toArray,List.append_toArray,List.nil_append,List.cons_append]
 go_wp2_with fail
 rw [← HW1.out]
 refine HL.out.mono ?_
 rintro e w2 ⟨fn,caps,rfl,h2,k2⟩
 obtain ⟨W3,hW3⟩:∃ W3,W3=w2.alloc (.cells #[.func (.func fn) #[] caps] 88):=⟨_,rfl⟩
 have k3:Keep none_ w2 W3:=by rw [hW3];exact (Keep.refl _ _).alloc _
 have hst:Blk W3 w2.heap.size [.func (.func fn) #[] caps] 88:=by rw [hW3];exact Blk.new w2 _ _
 have e3:W3.heap.size=w2.heap.size+1:=by rw [hW3];simp
 have kw2:Keep none_ w w2:=HK1.out.trans k2
 have kw3:Keep none_ w W3:=kw2.trans k3
 obtain ⟨f11,f14,f9,fX,fF⟩:=P5.out W3 kw3
 have fb:=(k2.trans k3).blk HB1.out (fun f=>f)
 have cb:W3.cell? ⟨w.heap.size,0,none⟩=some (.pointer (some ⟨g.M,0,none⟩)):=fb.cell 0 rfl
 have cbx:∀ x,(w2.alloc x).cell? ⟨w.heap.size,0,none⟩=some (.pointer (some ⟨g.M,0,none⟩)):=fun x=>((k2.blk HB1.out (fun f=>f)).alloc x).cell 0 rfl
 have f9x:∀ x,(w2.alloc x).cell? ⟨g.M,9,none⟩=some (.slice (some ⟨g.X,0,none⟩) regs.length regs.length):=fun x=>(P5.out _ (kw2.trans ((Keep.refl _ _).alloc x))).2.2.1
 obtain ⟨o2,ho2⟩:∃ o2,o2=o.put w2.heap.size 99:=⟨_,rfl⟩
 have hext:aH w2 o o2:=by rw [ho2];exact Ow.iM (.inl (Nat.le_refl _))
 have hst2:o2 w2.heap.size=99:=by rw [ho2];exact Ow.jB _ _ _
 have hfut2:Fut o2 W3:=by rw [ho2];exact Ow.kD fF (Nat.le_refl _) (by omega)
 have U1:Hid (∀ W d v,bH o2 W g.Nt g.M d v→bH o W g.Nt g.M d v):=fun W d v hd=>hd.gen (fun b cs T h5 h6=>⟨by rw [ho2] at h5;unfold Ow.put at h5;split at h5<;>first|exact h5|omega,h6⟩)
 obtain ⟨W4,hW4⟩:∃ W4,W4=W3.alloc (.cells #[.slice (some ⟨g.X,0,none⟩) regs.length regs.length] 32):=⟨_,rfl⟩
 have k4:Keep none_ W3 W4:=by rw [hW4];exact (Keep.refl _ _).alloc _
 have hbx:Blk W4 W3.heap.size [.slice (some ⟨g.X,0,none⟩) regs.length regs.length] 32:=by rw [hW4];exact Blk.new W3 _ _
 have e4:W4.heap.size=W3.heap.size+1:=by rw [hW4];simp
 have zZ:Hid (xH Fence.wide 8 Tryz.prog 170 #[.pointer (some ⟨W3.heap.size,0,none⟩)] (lD regs) sW (mG W3.heap.size g.X) W4):=PX regs W3.heap.size g.X hr64 8 W4 hbx (k4.blk fX (fun f=>f))
 have HI0:Hid (ScI o2 w W4.heap.size g.M g.Nt w.heap.size w2.heap.size mw regs 0 W4):=⟨kw3.trans k4,k4.blk fb (fun f=>f),Nat.le_refl _,fn,caps,k4.blk hst (fun f=>f),by
  rw [Nat.sub_zero,List.drop_length]
  exact (((bH.ext hext h2).still k3).still k4)⟩
 have HGL:Hid (∀ i,mG W3.heap.size g.X i→i<W4.heap.size∧i≠w2.heap.size):=by
  have h5:=kw2.size
  rintro i (rfl|rfl)
  ·exact ⟨by omega,by omega⟩
  ·have:=HXL.out;exact ⟨by omega,by omega⟩
 have HWL:Hid (w.heap.size<w2.heap.size∧w2.heap.size<W4.heap.size):=by
  have h5:=k2.size
  have h6:W1.heap.size=w.heap.size+1:=by rw [HW1.out];simp
  exact ⟨by omega,by omega⟩
 have HF2:Hid (∀ W,W3.heap.size≤W.heap.size→Fut o2 W):=fun W hW=>hfut2.later hW
 have vH:=Lib.hid hst2
 have HW3:=Lib.hid hW3
 have HW4:=Lib.hid hW4
 have HE4:=Lib.hid e4
 clear h2 k2 k3 hst e3 kw2 kw3 f11 f14 fX fF fb ho2 hext hst2 hfut2 k4 hbx e4 hW3 hW4 HL HK1 HB1
 go_wp2_with fail
 rw [← HW3.out]
 refine (BR _ _ _ _).mono ?_
 rintro e w4 ⟨rfl,hw4⟩
 rw [← HW4.out] at hw4
 subst hw4
 clear cb f9 cbx f9x
 go_wp2_with fail
 refine wpIn_wide (n:=9) |>.1 ?_
 refine zW rfl (by decide) (gf:=170) (lb:=#[.pointer (some ⟨W3.heap.size,0,none⟩)]) rfl trivial (fun args w=>by simp [callFunc,Tryz.func170,go_sem];rfl) (all:=lD regs) (Enc:=sW) (G:=mG W3.heap.size g.X)
  zZ.out ?hG ?hps
  (fun j W=>ScI o2 w w4.heap.size g.M g.Nt w.heap.size w2.heap.size mw regs j W)
  (fun _ _ _=>False)
  ?hI ?hIx ?h0 ?round ?done ?stop
 case hI=>exact ScI.own (by have:=HWL.out;omega)
 case hIx=>exact fun c s W W' row h hg hr=>h
 case h0=>exact HI0.out
 case hG=>exact fun i hi=>(HGL.out i hi).1
 case hps =>
  rintro W x args h
  rw [h];rfl
 case stop=>exact fun D c k W hD hk h=>h.elim
 case round =>
  rintro l j x args W hx henc hI
  have hj:j<regs.length:=by
   have h:=(List.getElem?_eq_some_iff.1 hx).1
   rwa [mV] at h
  rw [tV hj] at hx
  injection hx with hx
  subst hx
  obtain ⟨x,hx⟩:∃ x,x=regs.getD (regs.length - 1 - j) 0:=⟨_,rfl⟩
  obtain ⟨y,hy⟩:∃ y:Nat,y=regs.length - 1 - j:=⟨_,rfl⟩
  obtain rfl:args=#[.int .i64 (y:Int),.int .i64 (x:Int)]:=by rw [hx,hy];exact henc
  have HX:=Lib.hid hx
  clear hx hy henc
  have HI:=Lib.hid hI
  clear hI
  gi_wp2_with fail
  refine ⟨fun W=>ScI o2 w w4.heap.size g.M g.Nt w.heap.size w2.heap.size mw regs j W,KeepsFrom.refl _ _,Holds.refl _ _,HI.out,(fun _ W' W'' row h hg hr=>ScI.own (by have:=HWL.out;omega) j W' W'' row h hg hr),?_⟩
  clear HI
  rintro W2 hI
  have HG3:Hid (w4.heap.size≤W2.heap.size):=hI.big
  obtain ⟨q11,q14,-,-,-⟩:=P5.out W2 hI.keep
  have qb:W2.cell? ⟨w.heap.size,0,none⟩=some (.pointer (some ⟨g.M,0,none⟩)):=hI.mb.cell 0 rfl
  obtain ⟨fn1,caps1,hs1,hc1⟩:=hI.st
  have qs:=hs1.cell 0 (v := .func (.func fn1) #[] caps1) rfl
  have fs:=hs1.free 0
  have hkd:Keep none_ W2 W2.drew:=(Keep.refl none_ W2).drew
  have hx:=HX.out
  have hsc:iJ mw (regs.drop (regs.length - (j+1)))=iP x mw (iJ mw (regs.drop (regs.length - j))):=by
   have hq:regs.length - (j+1)<regs.length:=by omega
   rw [List.drop_eq_getElem_cons hq]
   have e1:regs.length - (j+1)+1=regs.length - j:=by omega
   have e2:regs[regs.length - (j+1)]=x:=by
    rw [hx,List.getD_eq_getElem?_getD,show regs.length - 1 - j=regs.length - (j+1) by omega,List.getElem?_eq_getElem hq];rfl
   rw [e1,e2];rfl
  have HN:Hid (Calls Tryz.prog 135 #[.pointer (some ⟨g.Nt,0,none⟩),.int .i64 (x:Int),.int .i64 (mw:Int),.func (.func fn1) #[] caps1] W2.drew fun e w3=>∃ fn caps,e = .returned (.func (.func fn) #[] caps)∧w3.frozen? ⟨w2.heap.size,0,none⟩=false∧w3.cell? ⟨w2.heap.size,0,none⟩=some (.func (.func fn1) #[] caps1) ∧
   ScI o2 w w4.heap.size g.M g.Nt w.heap.size w2.heap.size mw regs (j+1) (w3.setCell ⟨w2.heap.size,0,none⟩ (.func (.func fn) #[] caps))∧KeepsFrom w4.heap.size W2 (w3.setCell ⟨w2.heap.size,0,none⟩ (.func (.func fn) #[] caps))∧Holds (mG W3.heap.size g.X) W2 (w3.setCell ⟨w2.heap.size,0,none⟩ (.func (.func fn) #[] caps))):=by
   refine (JH (HF2.out W2.drew (by have:=HE4.out;have:=HG3.out;have:=hkd.size;omega)) x mw (iJ mw (regs.drop (regs.length - j))) _ (hc1.still hkd) (BU _)).mono ?_
   rintro e w3 ⟨fn,caps,rfl,h5,k5⟩
   have k6:Keep none_ W2 w3:=hkd.trans k5
   have hs3:=k6.blk hs1 (fun f=>f)
   have kp:Keep (only w2.heap.size) w3 (w3.setCell ⟨w2.heap.size,0,none⟩ (.func (.func fn) #[] caps)):=(Keep.refl _ _).put 0 _
   have h01:=HWL.out
   refine ⟨fn,caps,rfl,hs3.free 0,hs3.cell 0 rfl,⟨?_,?_,?_,fn,caps,hs3.set 0 _,?_⟩,?_,?_⟩
   ·exact (hI.keep.trans k6).dJ (by omega) _ _
   ·exact kp.blk (k6.blk hI.mb (fun f=>f)) (fun e=>by unfold only at e;omega)
   ·have h7:=hI.big;have h8:=k6.size;simp;omega
   ·rw [hsc]
    exact h5.keep kp (fun b hb e=>by unfold only at e;rw [e,vH.out] at hb;cases hb)
   ·exact (KeepsFrom.mZ k6).trans ((KeepsOthers.setCell _ _ _).from _)
   ·refine (Holds.mZ k6 (fun i hi=>⟨Nat.lt_of_lt_of_le (HGL.out i hi).1 HG3.out,fun f=>f⟩)).trans ⟨by simp,fun i hi=>?_⟩
    rw [Below.heap_setCell _ _ _ _ (by simp;exact (HGL.out i hi).2)]
  clear hsc hx hI hs1 hc1 hkd
  gi_wp2_with fail
  refine rQ 10 (by kernel_rfl) (by kernel_rfl) (by kernel_rfl) ?_
  change wpStill _ _ (World.drew _) _ _ _
  simp only [List.take_succ_cons,List.take_zero,List.drop_succ_cons,List.drop_zero]
  repeat still_step
  refine wpStill_nil ?_
  change wpListIn _ _ _ _ _ _ _ W2.drew
  gi_wp2_with fail
  refine ⟨trivial,CallsIn.mono (CallsIn.inRound l (callsIn_wide.2 HN.out)) ?_⟩
  rintro e w3 ⟨fn3,caps3,rfl,hf3,hc3,hend⟩
  have dO:=Lib.hid hend
  clear hend HN qs fs qb q11 q14
  gi_wp2_with fail
  exact ⟨dO.out.2.1,dO.out.2.2,dO.out.1⟩
 case done =>
  rintro D W hD hI hKd
  rw [mV] at hI
  obtain ⟨fn1,caps1,hs1,hc1⟩:=hI.st
  have cO:=hs1.cell 0 (v := .func (.func fn1) #[] caps1) rfl
  have hKp:=hI.keep.takeDeferred (D:=D) (by have h1:=HWL.out;omega) (.deferred none)
  have rF:Hid (bH o (W.putObj D (.deferred none)) g.Nt g.M (iJ mw regs) (.func (.func fn1) #[] caps1)):=by
   rw [Nat.sub_self,List.drop_zero] at hc1
   refine U1.out _ _ _ (hc1.gen (fun b cs T h5 h6=>⟨h5,h6.putObj hKd rfl⟩))
  clear hI hs1 hc1
  go_wp2_with fail
  refine ⟨by simp,.inl ⟨_,_,rfl,run_takeDeferred hKd,?_⟩⟩
  refine ⟨.func (.func fn1) #[] caps1,by simp [results,Tryz.f91,go_sem],fn1,caps1,rfl,rF.out,hKp⟩
end
def wO (m:MS) (k:Int):MD:=if k=3 then iJ m.want m.regs else if k=5 then m.iQ m.want (.once 5) else .once k
section
variable {o:Ow} {w w':World} {G:Geo} {g:MG} {s:Sh} {m:MS} {nv:Value} {ev:Option Ev}
theorem G8 (h:MAt o w G g s m ev nv) (k:Int):Calls Tryz.prog 91 #[.pointer (some ⟨g.M,0,none⟩),.int .i64 k] w fun e w'=>∃ fn caps,e = .returned (.func (.func fn) #[] caps)∧bH o w' g.Nt g.M (wO m k) (.func (.func fn) #[] caps)∧Keep none_ w w':=by
 unfold wO
 by_cases h3:k=3
 ·subst h3;rw [if_pos rfl];exact EY h
 rw [if_neg h3]
 by_cases h5:k=5
 ·subst h5;rw [if_pos rfl];exact EX h
 rw [if_neg h5]
 exact EW h.sh.fut k ⟨h3,h5⟩
theorem G9 (h:s.B.pend m.id=true):bI s m=wO m s.B.kind:=by
 unfold bI wO
 rw [if_pos h]
theorem MAt.DN (h:MAt o w G g s m ev nv):∃ a c,w.cell? ⟨g.M,15,none⟩=some (.slice a m.prog.length c)∧m.prog.length≤1000∧∀ i op,m.prog[i]?=some op→∃ b off,a=some ⟨b,off,none⟩∧∀ j u,op.cells[j]?=some u→w.cell? ⟨b,off+i*4+j,none⟩=some u:=by
 obtain ⟨pv,rv,h1,⟨a,c,rfl,h2,h3⟩,_⟩:=h.blk
 refine ⟨a,c,h1.cell 15 rfl,h2,fun i op hi=>?_⟩
 obtain ⟨b,off,cs,e1,_,e3,e4⟩:=h3 (by have:=(List.getElem?_eq_some_iff.1 hi).1;omega)
 exact ⟨b,off,e1,fun j u hj=>e3.cell _ (e4 i op hi j u hj)⟩
theorem MAt.begin0 (h:MAt o w G g s m none nv) (p:Bool) {b:Nat} (hb:Blk w b [ah g.M] 56) (ho:o b=0):∀ W2,W2=w.setCell ⟨g.M,22,none⟩ (.bool p) →
 MAt o W2 G g s { m with ans:=p } none nv∧Keep (In o [20+m.id]) w W2∧Blk W2 b [ah g.M] 56:=by
 rintro W2 rfl
 obtain ⟨h3,k3⟩:=h.put 22 (.bool p) { m with ans:=p } none nv (fun pv rv=>rfl) ⟨rfl,rfl,rfl,rfl,rfl,rfl⟩
 exact ⟨h3,k3,hb.ay k3 ho (by simp<;>omega)⟩
def rU (o:Ow) (w:World) (G:Geo) (g:MG) (s:Sh) (m:MS) (nv:Value) (p:Bool):Ending→World→Prop:=fun e w'=>∃ v,e = .returned v∧MAt o w' G g s { m with ans:=p } none nv∧bH o w' g.Nt g.M (bI s m) v∧Keep (In o [20+m.id]) w w'
theorem JZ (h:MAt o w G g s m none nv) (hp:s.B.pend m.id=true):Calls Tryz.prog 48 #[.pointer (some ⟨g.M,0,none⟩)] w (rU o w G g s m nv true):=by
 obtain ⟨W1,hW1⟩:∃ W1,W1=w.alloc (.cells #[ah g.M] 56):=⟨_,rfl⟩
 have k1:Keep none_ w W1:=by rw [hW1];exact (Keep.refl _ _).alloc _
 have hb1:Blk W1 w.heap.size [ah g.M] 56:=by rw [hW1];exact Blk.new w _ _
 have ho:o w.heap.size=0:=h.sh.fut _ (Nat.le_refl _)
 have h1:=h.still k1
 have c0:W1.cell? ⟨w.heap.size,0,none⟩=some (.pointer (some ⟨g.M,0,none⟩)):=hb1.cell 0 rfl
 have c1:=h1.m0
 have c2:=h1.s0.2.1
 have c3:=h1.c8
 have HKD:Hid (Keep none_ W1 W1.drew):=(Keep.refl none_ W1).drew
 have HP:=Lib.hid (oP (p:=true) (k:=s.B.lq m.id) (h1.still HKD.out).sh.board hp rfl)
 have tZ:Hid (∀ W,Keep none_ W1 W→W.cell? ⟨w.heap.size,0,none⟩=some (.pointer (some ⟨g.M,0,none⟩))∧W.frozen? ⟨g.M,22,none⟩=false∧W.cell? ⟨g.M,22,none⟩=some (.bool m.ans) ∧
  ∀ W2,W2=W.setCell ⟨g.M,22,none⟩ (.bool true)→W2.cell? ⟨w.heap.size,0,none⟩=some (.pointer (some ⟨g.M,0,none⟩))∧(∃ a c,W2.cell? ⟨g.M,16,none⟩=some (.slice a m.res.length c)) ∧
   Hid (Calls Tryz.prog 91 #[.pointer (some ⟨g.M,0,none⟩),.int .i64 (s.B.lq m.id)] W2 fun e w'=>∃ fn caps,e = .returned (.func (.func fn) #[] caps)∧Hid (rU o w G g s m nv true (.returned (.func (.func fn) #[] caps)) w'))):=fun W hW=>by
  have h2:=h1.still hW
  have hb2:=hW.blk hb1 (fun f=>f)
  refine ⟨hb2.cell 0 rfl,h2.free 22,h2.cell 22 _ (fun _ _=>rfl),fun W2 hW2=>?_⟩
  obtain ⟨h3,k3,hb3⟩:=h2.begin0 true hb2 ho W2 hW2
  obtain ⟨rv,er,_,ra,rc,hrv⟩:=h3.Ag
  refine ⟨hb3.cell 0 rfl,⟨ra,rc,by rw [er,hrv]⟩,?_⟩
  have ek:s.B.lq m.id=s.B.kind:=by unfold Bd.lq;rw [if_pos hp]
  rw [ek]
  refine (G8 h3 s.B.kind).mono ?_
  rintro e w' ⟨fn,caps,rfl,h4,k4⟩
  refine ⟨fn,caps,rfl,_,rfl,h3.still k4,?_,(k1.aF.trans hW.aF).trans (k3.trans k4.aF)⟩
  rw [G9 hp];exact h4
 have HW1:=Lib.hid hW1
 generalize s.B.lq m.id=kd at *
 generalize m.ans=an at *
 generalize m.res.length=rl at *
 clear h h1 hW1 k1 hb1 ho hp
 generalize rU o w G g s m nv true=PO at *
 go_enter Tryz.func48,Tryz.ntmps48
 go_wp2_with fail
 rw [← HW1.out]
 refine aA 11 rfl (by kernel_rfl) (by kernel_rfl) (fun K hK=>?_)
 change wpStill _ _ (World.drew _) _ _ _
 simp only [List.take_succ_cons,List.take_zero,List.drop_succ_cons,List.drop_zero] at hK ⊢
 repeat still_step
 refine wpStill_nil ?_
 change ite _ (Oper.wp _ _ _ _ _ _) _
 go_simp
 refine HP.out.mono ?_
 rintro e w2 ⟨rfl,hw2⟩
 refine hK _ _ ?_
 clear hK K
 obtain ⟨d0,d1,d2,hs⟩:=tZ.out w2 (by rw [← hw2];exact HKD.out)
 obtain ⟨W2,hW2⟩:∃ W2,W2=w2.setCell ⟨g.M,22,none⟩ (.bool true):=⟨_,rfl⟩
 obtain ⟨e0,⟨ra,rc,e1⟩,HE⟩:=hs W2 hW2
 have HW2:=Lib.hid hW2
 rw [hW2] at e0 e1
 clear c0 c1 c2 c3 HP hs hW2 hw2 tZ HKD
 repeat still_step
 refine wpStill_nil ?_
 go_wp2_with fail
 rw [← HW2.out]
 refine HE.out.mono ?_
 rintro e w3 ⟨fn,caps,rfl,HR⟩
 go_wp2_with fail
 exact HR.out
theorem J3 (h:MAt o w G g s m none nv) (hp:s.B.pend m.id=false) (hlt:¬ m.res.length<m.prog.length):Calls Tryz.prog 48 #[.pointer (some ⟨g.M,0,none⟩)] w (rU o w G g s m nv false):=by
 obtain ⟨W1,hW1⟩:∃ W1,W1=w.alloc (.cells #[ah g.M] 56):=⟨_,rfl⟩
 have k1:Keep none_ w W1:=by rw [hW1];exact (Keep.refl _ _).alloc _
 have hb1:Blk W1 w.heap.size [ah g.M] 56:=by rw [hW1];exact Blk.new w _ _
 have ho:o w.heap.size=0:=h.sh.fut _ (Nat.le_refl _)
 have h1:=h.still k1
 have c0:W1.cell? ⟨w.heap.size,0,none⟩=some (.pointer (some ⟨g.M,0,none⟩)):=hb1.cell 0 rfl
 have c1:=h1.m0
 have c2:=h1.s0.2.1
 have c3:=h1.c8
 have HKD:Hid (Keep none_ W1 W1.drew):=(Keep.refl none_ W1).drew
 have HP:=Lib.hid (oP (p:=false) (k:=s.B.lq m.id) (h1.still HKD.out).sh.board hp rfl)
 have tZ:Hid (∀ W,Keep none_ W1 W→W.cell? ⟨w.heap.size,0,none⟩=some (.pointer (some ⟨g.M,0,none⟩))∧W.frozen? ⟨g.M,22,none⟩=false∧W.cell? ⟨g.M,22,none⟩=some (.bool m.ans) ∧
  ∀ W2,W2=W.setCell ⟨g.M,22,none⟩ (.bool false)→W2.cell? ⟨w.heap.size,0,none⟩=some (.pointer (some ⟨g.M,0,none⟩))∧(∃ a c,W2.cell? ⟨g.M,16,none⟩=some (.slice a m.res.length c))∧(∃ a c,W2.cell? ⟨g.M,15,none⟩=some (.slice a m.prog.length c)) ∧
   Hid (rU o w G g s m nv false (.returned .nilFunc) W2)):=fun W hW=>by
  have h2:=h1.still hW
  have hb2:=hW.blk hb1 (fun f=>f)
  refine ⟨hb2.cell 0 rfl,h2.free 22,h2.cell 22 _ (fun _ _=>rfl),fun W2 hW2=>?_⟩
  obtain ⟨h3,k3,hb3⟩:=h2.begin0 false hb2 ho W2 hW2
  obtain ⟨rv,er,_,ra,rc,hrv⟩:=h3.Ag
  obtain ⟨pa,pc,ep,_,_⟩:=h3.DN
  refine ⟨hb3.cell 0 rfl,⟨ra,rc,by rw [er,hrv]⟩,⟨pa,pc,ep⟩,_,rfl,h3,?_,(k1.aF.trans hW.aF).trans k3⟩
  have hbe:bI s m = .nil:=by
   unfold bI
   rw [hp,if_neg (by decide),List.getElem?_eq_none (by omega)]
  rw [hbe];rfl
 have HW1:=Lib.hid hW1
 have oV:¬ (m.res.length:Int)<(m.prog.length:Int):=by omega
 have Wh:decide ((m.res.length:Int)<(m.prog.length:Int))=false:=decide_eq_false oV
 generalize s.B.lq m.id=kd at *
 generalize m.ans=an at *
 generalize m.res.length=rl at *
 generalize m.prog.length=pl at *
 clear h h1 hW1 k1 hb1 ho hp hlt
 generalize rU o w G g s m nv false=PO at *
 go_enter Tryz.func48,Tryz.ntmps48
 go_wp2_with fail
 rw [← HW1.out]
 refine aA 11 rfl (by kernel_rfl) (by kernel_rfl) (fun K hK=>?_)
 change wpStill _ _ (World.drew _) _ _ _
 simp only [List.take_succ_cons,List.take_zero,List.drop_succ_cons,List.drop_zero] at hK ⊢
 repeat still_step
 refine wpStill_nil ?_
 change ite _ (Oper.wp _ _ _ _ _ _) _
 go_simp
 refine HP.out.mono ?_
 rintro e w2 ⟨rfl,hw2⟩
 refine hK _ _ ?_
 clear hK K
 obtain ⟨d0,d1,d2,hs⟩:=tZ.out w2 (by rw [← hw2];exact HKD.out)
 obtain ⟨W2,hW2⟩:∃ W2,W2=w2.setCell ⟨g.M,22,none⟩ (.bool false):=⟨_,rfl⟩
 obtain ⟨e0,⟨ra,rc,e1⟩,⟨pa,pc,e2⟩,HE⟩:=hs W2 hW2
 rw [hW2] at e0 e1 e2 HE
 clear c0 c1 c2 c3 HP hs hW2 hw2 tZ HKD
 repeat still_step
 refine wpStill_nil ?_
 go_wp2_with fail
 exact HE.out
theorem Nw (h:MAt o w G g s m none nv) (hp:s.B.pend m.id=false) (hlt:m.res.length<m.prog.length):Calls Tryz.prog 48 #[.pointer (some ⟨g.M,0,none⟩)] w (rU o w G g s m nv false):=by
 obtain ⟨W1,hW1⟩:∃ W1,W1=w.alloc (.cells #[ah g.M] 56):=⟨_,rfl⟩
 have k1:Keep none_ w W1:=by rw [hW1];exact (Keep.refl _ _).alloc _
 have hb1:Blk W1 w.heap.size [ah g.M] 56:=by rw [hW1];exact Blk.new w _ _
 have ho:o w.heap.size=0:=h.sh.fut _ (Nat.le_refl _)
 have h1:=h.still k1
 have c0:W1.cell? ⟨w.heap.size,0,none⟩=some (.pointer (some ⟨g.M,0,none⟩)):=hb1.cell 0 rfl
 have c1:=h1.m0
 have c2:=h1.s0.2.1
 have c3:=h1.c8
 have HKD:Hid (Keep none_ W1 W1.drew):=(Keep.refl none_ W1).drew
 have HP:=Lib.hid (oP (p:=false) (k:=s.B.lq m.id) (h1.still HKD.out).sh.board hp rfl)
 obtain ⟨op,eop⟩:∃ op,m.prog[m.res.length]?=some op:=⟨_,List.getElem?_eq_getElem hlt⟩
 have tZ:Hid (∀ W,Keep none_ W1 W→W.cell? ⟨w.heap.size,0,none⟩=some (.pointer (some ⟨g.M,0,none⟩))∧W.frozen? ⟨g.M,22,none⟩=false∧W.cell? ⟨g.M,22,none⟩=some (.bool m.ans) ∧
  ∀ W2,W2=W.setCell ⟨g.M,22,none⟩ (.bool false)→W2.cell? ⟨w.heap.size,0,none⟩=some (.pointer (some ⟨g.M,0,none⟩))∧(∃ a c,W2.cell? ⟨g.M,16,none⟩=some (.slice a m.res.length c)) ∧
   (∃ b off c,W2.cell? ⟨g.M,15,none⟩=some (.slice (some ⟨b,off,none⟩) m.prog.length c)∧W2.cell? ⟨b,off+m.res.length*4,none⟩=some (.int .i64 op.k)∧W2.cell? ⟨b,off+m.res.length*4+1,none⟩=some (.int .i64 op.a)∧W2.cell? ⟨b,off+m.res.length*4+2,none⟩=some (.int .i64 op.b)∧W2.cell? ⟨b,off+m.res.length*4+3,none⟩=some (.int .i64 op.c)) ∧
   Hid (rU o w G g s m nv false (.returned (.func (.func 92) #[] #[.pointer (some ⟨w.heap.size,0,none⟩),.pointer (some ⟨W2.heap.size,0,none⟩)])) (W2.alloc (.cells #[.int .i64 op.k,.int .i64 op.a,.int .i64 op.b,.int .i64 op.c] 83)))):=fun W hW=>by
  have h2:=h1.still hW
  have hb2:=hW.blk hb1 (fun f=>f)
  refine ⟨hb2.cell 0 rfl,h2.free 22,h2.cell 22 _ (fun _ _=>rfl),fun W2 hW2=>?_⟩
  obtain ⟨h3,k3,hb3⟩:=h2.begin0 false hb2 ho W2 hW2
  obtain ⟨rv,er,_,ra,rc,hrv⟩:=h3.Ag
  obtain ⟨pa,pc,ep,_,hpo⟩:=h3.DN
  obtain ⟨pb,off,rfl,hcs⟩:=hpo _ op eop
  have k4:Keep none_ W2 (W2.alloc (.cells op.cells.toArray 83)):=(Keep.refl _ _).alloc _
  refine ⟨hb3.cell 0 rfl,⟨ra,rc,by rw [er,hrv]⟩,⟨pb,off,pc,ep,hcs 0 _ rfl,hcs 1 _ rfl,hcs 2 _ rfl,hcs 3 _ rfl⟩,_,rfl,h3.still k4,?_,(k1.aF.trans hW.aF).trans (k3.trans k4.aF)⟩
  have hbe:bI s m = .start op:=by
   unfold bI
   rw [hp,if_neg (by decide),eop]
  rw [hbe]
  exact ⟨[w.heap.size,W2.heap.size],rfl,_,_,rfl,ho,k4.blk hb3 (fun f=>f),_,_,rfl,h3.sh.fut _ (Nat.le_refl _),Blk.new W2 op.cells _,rfl⟩
 have HW1:=Lib.hid hW1
 have hpl:m.prog.length≤1000:=by
  obtain ⟨_,_,_,h9,_⟩:=h.DN
  exact h9
 have oV:(m.res.length:Int)<(m.prog.length:Int):=by omega
 have Wi:(m.prog.length:Int)≤1000:=by omega
 have hmf:=gV
 obtain ⟨ok,oa,ob,oc⟩:=op
 simp only at tZ
 generalize s.B.lq m.id=kd at *
 generalize m.ans=an at *
 generalize rU o w G g s m nv false=PO at *
 generalize hrl:m.res.length=rl at *
 generalize hpl2:m.prog.length=pl at *
 clear h h1 hW1 k1 hb1 ho hp eop hrl hpl2
 go_enter Tryz.func48,Tryz.ntmps48
 go_wp2_with fail
 rw [← HW1.out]
 refine aA 11 rfl (by kernel_rfl) (by kernel_rfl) (fun K hK=>?_)
 change wpStill _ _ (World.drew _) _ _ _
 simp only [List.take_succ_cons,List.take_zero,List.drop_succ_cons,List.drop_zero] at hK ⊢
 repeat still_step
 refine wpStill_nil ?_
 change ite _ (Oper.wp _ _ _ _ _ _) _
 go_simp
 refine HP.out.mono ?_
 rintro e w2 ⟨rfl,hw2⟩
 refine hK _ _ ?_
 clear hK K
 obtain ⟨d0,d1,d2,hs⟩:=tZ.out w2 (by rw [← hw2];exact HKD.out)
 obtain ⟨W2,hW2⟩:∃ W2,W2=w2.setCell ⟨g.M,22,none⟩ (.bool false):=⟨_,rfl⟩
 obtain ⟨e0,⟨ra,rc,e1⟩,⟨pb,off,pc,e2,y0,y1,y2,y3⟩,HE⟩:=hs W2 hW2
 rw [hW2] at e0 e1 e2 HE y0 y1 y2 y3
 clear c0 c1 c2 c3 HP hs hW2 hw2 tZ HKD
 repeat still_step
 refine wpStill_nil ?_
 go_wp2_with fail
 have h9:=HE.out
 rw [show (w2.setCell ⟨g.M,22,none⟩ (.bool false)).heap.size=w2.heap.size from by simp] at h9
 exact h9
theorem J4 (h:MAt o w G g s m none nv):Calls Tryz.prog 48 #[.pointer (some ⟨g.M,0,none⟩)] w (rU o w G g s m nv (s.B.pend m.id)):=by
 cases hp:s.B.pend m.id with
 | true=>exact JZ h hp
 | false =>
   by_cases hlt:m.res.length<m.prog.length
   ·exact Nw h hp hlt
   ·exact J3 h hp hlt
end
section
variable {o:Ow} {w w':World} {G:Geo} {g:MG} {s:Sh} {m:MS} {nv:Value} {ev:Option Ev}
theorem yt (fn:Nat) (caps:Array Value):∀ w,(binOp .neq 88 (.func (.func fn) #[] caps) .nilFunc).run Tryz.prog w = .ok (.bool true) w:=fun w=>by first|rfl|(simp [binOp,go_sem];done)|(simp [binOp,go_sem];rfl)
theorem wP:∀ w,(binOp .neq 88 .nilFunc .nilFunc).run Tryz.prog w = .ok (.bool false) w:=fun w=>by first|rfl|(simp [binOp,go_sem];done)|(simp [binOp,go_sem];rfl)
theorem MAt.c17 (h:MAt o w G g s m ev nv):w.cell? ⟨g.M,17,none⟩=some nv:=h.cell 17 _ (fun _ _=>rfl)
theorem P6 (h:MAt o w G g s m ev .nilFunc):Calls Tryz.prog 78 #[.pointer (some ⟨g.M,0,none⟩)] w fun e w'=>e = .returned (.bool false)∧w=w':=by
 have c:=h.c17
 have hn:=wP
 clear h
 go_enter Tryz.func78,Tryz.ntmps78
 go_wp2_with fail
 go_ret
 exact ⟨rfl,rfl⟩
theorem Ny {fn:Nat} {caps:Array Value} (h:MAt o w G g s m ev (.func (.func fn) #[] caps)):Calls Tryz.prog 78 #[.pointer (some ⟨g.M,0,none⟩)] w fun e w'=>e = .returned (.bool true)∧w=w':=by
 have c:=h.c17
 have hn:=yt fn caps
 clear h
 go_enter Tryz.func78,Tryz.ntmps78
 go_wp2_with fail
 go_ret
 exact ⟨rfl,rfl⟩
end
def HS.new (c:aB) (b ww nc:Nat):HS:=⟨c,b,ww,List.replicate (b*ww) 0,List.replicate b 0,[[],[],[],[]],fun _=>false,fun _=>false,List.replicate nc 0⟩
theorem J5 (c:aB) (b ww nc:Nat) (h:b*ww≤1048576):bF (HS.new c b ww nc):=by
 have hrow:∀ k,(HS.new c b ww nc).row k=[]:=fun k=>by
  match k with
  | 0=>rfl
  | 1=>rfl
  | 2=>rfl
  | 3=>rfl
  | n+4=>rfl
 have hz:∀ a,(HS.new c b ww nc).word a=0:=fun a=>by
  unfold HS.word lM HS.new
  split
  ·rw [List.getD_eq_getElem?_getD,List.getElem?_replicate]
   split<;>rfl
  ·rfl
 refine ⟨by simp [HS.new],h,fun x hx=>?_,fun x hx=>?_,rfl,fun k _=>?_,fun k _=>?_,fun k _ a ha=>?_,fun a ha=>?_,fun a _ _ _ => .inl (hz a),fun x hx=>?_,fun a _ _ _=>hz a⟩
 ·rw [List.eq_of_mem_replicate hx];decide
 ·rw [List.eq_of_mem_replicate hx];decide
 ·rw [hrow];trivial
 ·rw [hrow];exact List.nodup_nil
 ·rw [hrow] at ha;cases ha
 ·cases ha
 ·rw [List.eq_of_mem_replicate hx];exact Nat.zero_le _
theorem EZ {w:World} {B X n:Nat} (h:dR w B X n (List.replicate ((n+63)/64) 0)):jq w B X n (fun _=>false) :=
 ⟨_,h,fun m=>by unfold iG;rw [Io];simp⟩
def uf (l:List Nat):Nat→Nat:=fun i=>l.getD i 0
theorem Nz {l:List Nat} (hl:l.length=13) (hn:l.Nodup):∀ i j,i<13→j<13→uf l i=uf l j→i=j:=by
 intro i j hi hj e
 unfold uf at e
 rw [List.getD_eq_getElem?_getD,List.getElem?_eq_getElem (by omega),List.getD_eq_getElem?_getD,List.getElem?_eq_getElem (by omega)] at e
 simp only [Option.getD_some] at e
 rcases Nat.lt_trichotomy i j with h|h|h
 ·exact absurd e (List.pairwise_iff_getElem.1 hn i j (by omega) (by omega) h)
 ·exact h
 ·exact absurd e.symm (List.pairwise_iff_getElem.1 hn j i (by omega) (by omega) h)
theorem RG (c:aB) (b ww nc:Nat) (hok:c.ok=true) (hcb:c.b=b) (hcw:c.w=ww) (hcc:c.c=nc) (w:World) (hT:Tabs w) (hS:Sizes w):Calls Tryz.prog 67 #[.agg c.cells.toArray] w fun e w'=>∃ D,e = .returned (.tuple #[.pointer (some ⟨D 0,0,none⟩),.int .i64 0])∧au w' D (HS.new c b ww nc)∧(∀ i,i<13→w.heap.size≤D i)∧Keep none_ w w':=by
 have hn:=jm hok hcb hcw
 have hbd:=dW hok
 have hnc:nc≤64:=by omega
 have hmk:∀ w:World,(Instr.makeSlice 32 (.int .i64 (nc:Int)) (.int .i64 (nc:Int))).run Tryz.prog w = .ok (.slice (some ⟨w.heap.size,0,none⟩) nc nc) (w.alloc (.cells (zeros (.int .i64 0) nc).toArray 3)) :=
  fun w=>run_mk (P:=Tryz.prog) (by kernel_rfl) Tryz.infoInt rfl (by decide) nc (by omega) _ rfl w
 obtain ⟨W0,hW0⟩:∃ W',W'=w.alloc (.cells c.cells.toArray 23):=⟨_,rfl⟩
 have HK:Hid (Keep none_ w W0):=by rw [hW0];exact (Keep.refl _ _).alloc _
 have HN:=Lib.hid (Q7 c b hok hcb W0 (hT.keep HK.out))
 have HB:=Lib.hid (show Blk W0 w.heap.size c.cells 23 by rw [hW0];exact Blk.new w _ _)
 have HSZ:Hid (W0.heap.size=w.heap.size+1):=by rw [Hid,hW0];simp
 have HCW:Hid (∀ W,Keep none_ w W→Calls Tryz.prog 108 #[.agg c.cells.toArray] W fun e w'=>e = .returned (.int .i64 ((b*ww:Nat):Int))∧Keep none_ W w'):=fun W hW=>pz hok hcb hcw W (hT.keep hW)
 have HAN:Hid (∀ W,Calls Tryz.prog 109 #[.int .i64 ((b*ww:Nat):Int)] W fun e w'=>∃ R X,e = .returned (.tuple #[.pointer (some ⟨R,0,none⟩),.int .i64 0])∧bM w' R X (List.replicate (b*ww) 0)∧W.heap.size≤R∧W.heap.size≤X∧Keep none_ W w'):=fun W=>OY (b*ww) (by have:=Nat.mul_le_mul hn.1 hn.2.2.1;omega) hn.2.2.2.2 W
 have HLN:Hid (∀ W aR aX tR tX,bM W aR aX (List.replicate (b*ww) 0)→dh W tR tX c (List.replicate b 0)→Keep none_ w W→Calls Tryz.prog 110 #[.pointer (some ⟨aR,0,none⟩),.pointer (some ⟨tR,0,none⟩)] W fun e w'=>∃ L iR iX,e = .returned (.tuple #[.pointer (some ⟨L,0,none⟩),.int .i64 0])∧aS w' L iR iX aR tR (b*ww+1) (List.replicate ((b*ww+1+63)/64) 0) [0,0,0,0]∧W.heap.size≤L∧W.heap.size≤iR∧W.heap.size≤iX∧Keep none_ W w'):=fun W aR aX tR tX hA hTb hW =>
  Rh hA hTb hcb hcw (by simp) (hT.keep hW)
 have HBN:Hid (∀ W,Calls Tryz.prog 111 #[.int .i64 (((b*ww:Nat):Int)+1)] W fun e w'=>∃ B X,e = .returned (.tuple #[.pointer (some ⟨B,0,none⟩),.int .i64 0])∧dR w' B X (b*ww+1) (List.replicate ((b*ww+1+63)/64) 0)∧W.heap.size≤B∧W.heap.size≤X∧Keep none_ W w'):=fun W=>by
  have h9:=Ep (b*ww+1) (by omega) W
  rw [show (((b*ww+1:Nat):Nat):Int)=((b*ww:Nat):Int)+1 by omega] at h9
  exact h9
 have TR:=Lib.hid (J5 c b ww nc hn.2.2.2.2)
 have HTS:Hid (Tabs w∧Sizes w):=⟨hT,hS⟩
 have Vs:((b*ww:Nat):Int)≤1048576:=by omega
 have hwr:IntKind.i64.wrap (((b*ww:Nat):Int)+1)=((b*ww:Nat):Int)+1:=IntWalk.i64_in _ (by omega)
 obtain ⟨NN,hNN⟩:∃ NN,NN=b*ww:=⟨_,rfl⟩
 have HNN:=Lib.hid hNN
 rw [← hNN] at HCW HAN HLN HBN Vs hwr
 obtain ⟨c0,c1,c2,c3,c4,c5,c6⟩:=c
 simp only at hcb hcw hcc
 subst hcb
 subst hcw
 subst hcc
 simp only [aB.cells] at *
 clear hT hS hok hn hbd hNN
 go_enter Tryz.func67,Tryz.ntmps67
 go_wp2_with fail
 rw [← hW0]
 clear hW0
 refine HN.out.mono ?_
 rintro e w1 ⟨tR,tX,rfl,ht,t1,t2,hk1⟩
 have HT1:=Lib.hid ht
 have HG1:Hid (w.heap.size+1≤tR∧w.heap.size+1≤tX∧tR≠tX∧tR<w1.heap.size∧tX<w1.heap.size):=by have h9:=HSZ.out;exact ⟨by omega,by omega,ht.ne,ht.blk.lt,ht.cls.lt⟩
 have HK1:=Lib.hid (HK.out.trans hk1)
 have HB1:=Lib.hid (hk1.blk HB.out (fun f=>f))
 have y0:=HB1.out.cell 0 rfl;have y1:=HB1.out.cell 1 rfl;have y2:=HB1.out.cell 2 rfl;have y3:=HB1.out.cell 3 rfl;have y4:=HB1.out.cell 4 rfl;have y5:=HB1.out.cell 5 rfl;have y6:=HB1.out.cell 6 rfl
 clear ht t1 t2 hk1 HN HK HB
 have TS:=Lib.hid (HCW.out _ HK1.out)
 go_wp2_with fail
 refine TS.out.mono ?_
 rintro e w2 ⟨rfl,hk2⟩
 have HK2:=Lib.hid (HK1.out.trans hk2)
 have HT2:=Lib.hid (HT1.out.still hk2)
 have HB2:=Lib.hid (hk2.blk HB1.out (fun f=>f))
 have HS2:Hid (w1.heap.size≤w2.heap.size):=hk2.size
 clear hk2 TS HCW HT1 HB1 y0 y1 y2 y3 y4 y5 y6
 go_wp2_with fail
 refine (HAN.out _).mono ?_
 rintro e w3 ⟨aR,aX,rfl,ha,a1,a2,hk3⟩
 have HK3:=Lib.hid (HK2.out.trans hk3)
 have HT3:=Lib.hid (HT2.out.still hk3)
 have HB3:=Lib.hid (hk3.blk HB2.out (fun f=>f))
 have HA3:=Lib.hid ha
 have HG3:Hid (w2.heap.size≤aR∧w2.heap.size≤aX∧aR≠aX∧aR<w3.heap.size∧aX<w3.heap.size):=⟨a1,a2,ha.ne,by obtain ⟨_,_,h9⟩:=ha.blk;exact h9.lt,ha.wds.lt⟩
 clear hk3 ha a1 a2 HT2 HB2
 have TT:=Lib.hid (HLN.out _ _ _ _ _ HA3.out HT3.out HK3.out)
 go_wp2_with fail
 refine TT.out.mono ?_
 rintro e w4 ⟨L,iR,iX,rfl,hl,l1,l2,l3,hk4⟩
 have HK4:=Lib.hid (HK3.out.trans hk4)
 have HT4:=Lib.hid (HT3.out.still hk4)
 have HB4:=Lib.hid (hk4.blk HB3.out (fun f=>f))
 have HA4:=Lib.hid (HA3.out.still hk4)
 have HL4:=Lib.hid hl
 have HG4:Hid (w3.heap.size≤L∧w3.heap.size≤iR∧w3.heap.size≤iX∧L≠iR∧L≠iX∧iR≠iX∧L<w4.heap.size∧iR<w4.heap.size∧iX<w4.heap.size):=⟨l1,l2,l3,hl.ne.1,hl.ne.2,hl.set.ne,hl.lt,by obtain ⟨_,h9⟩:=hl.set.blk;exact h9.lt,by obtain ⟨_,h9,_⟩:=hl.set.wds;exact h9.lt⟩
 clear hk4 hl l1 l2 l3 HT3 HB3 HA3 TT HLN
 go_wp2_with fail
 refine (HBN.out _).mono ?_
 rintro e w5 ⟨bR,bX,rfl,hs,s1,s2,hk5⟩
 have HK5:=Lib.hid (HK4.out.trans hk5)
 have HT5:=Lib.hid (HT4.out.still hk5)
 have HB5:=Lib.hid (hk5.blk HB4.out (fun f=>f))
 have HA5:=Lib.hid (HA4.out.still hk5)
 have HL5:=Lib.hid (HL4.out.still hk5)
 have HS5:=Lib.hid hs
 have HG5:Hid (w4.heap.size≤bR∧w4.heap.size≤bX∧bR≠bX∧bR<w5.heap.size∧bX<w5.heap.size):=⟨s1,s2,hs.ne,by obtain ⟨_,h9⟩:=hs.blk;exact h9.lt,by obtain ⟨_,h9,_⟩:=hs.wds;exact h9.lt⟩
 clear hk5 hs s1 s2 HT4 HB4 HA4 HL4
 have HCP:Hid (∀ W,Keep none_ w5 W→Calls Tryz.prog 88 #[.pointer (some ⟨bR,0,none⟩)] W fun e w'=>∃ B' X',e = .returned (.pointer (some ⟨B',0,none⟩))∧dR w' B' X' (NN+1) (List.replicate ((NN+1+63)/64) 0)∧W.heap.size≤B'∧W.heap.size≤X'∧Keep none_ W w'):=fun W hW=>Bv (HS5.out.still hW) (by omega)
 have dO:Hid (∀ cR cX cl d0 W,Keep none_ w5 W→dR W cR cX (NN+1) (List.replicate ((NN+1+63)/64) 0)→Blk W cl (aC (List.replicate nc 0)) 3→Blk W d0 [.pointer (some ⟨aR,0,none⟩),.pointer (some ⟨tR,0,none⟩),.pointer (some ⟨L,0,none⟩),.pointer (some ⟨bR,0,none⟩),.pointer (some ⟨cR,0,none⟩),.slice (some ⟨cl,0,none⟩) nc nc] 101 →
  w5.heap.size≤cR→w5.heap.size≤cX→w5.heap.size≤cl→w5.heap.size≤d0→cl≠cX →
  au W (uf [d0,aR,aX,tR,tX,L,iR,iX,bR,bX,cR,cX,cl]) (HS.new ⟨b,ww,c2,c3,nc,c5,c6⟩ b ww nc)∧∀ i,i<13→w.heap.size≤uf [d0,aR,aX,tR,tX,L,iR,iX,bR,bX,cR,cX,cl] i):=by
  intro cR cX cl d0 W hW hc hcl hd g1 g2 g3 g4 g5
  have q1:=HG1.out;have q2:=HS2.out;have q3:=HG3.out;have q4:=HG4.out;have q5:=HG5.out
  have q6:=hc.ne
  have q7:d0≠cR:=fun e=>by obtain ⟨_,h9⟩:=hc.blk;rw [e] at hd;exact absurd (hd.uniq h9).2 (by decide)
  have q8:d0≠cX:=fun e=>by obtain ⟨_,h9,_⟩:=hc.wds;rw [e] at hd;exact absurd (hd.uniq h9).2 (by decide)
  have q9:d0≠cl:=fun e=>by rw [e] at hd;exact absurd (hd.uniq hcl).2 (by decide)
  have q10:cl≠cR:=fun e=>by obtain ⟨_,h9⟩:=hc.blk;rw [e] at hcl;exact absurd (hcl.uniq h9).2 (by decide)
  have hge:∀ i,i<13→w.heap.size+1≤uf [d0,aR,aX,tR,tX,L,iR,iX,bR,bX,cR,cX,cl] i:=by
   intro i hi
   match i,hi with
   | 0,_=>show _≤d0;omega
   | 1,_=>show _≤aR;omega
   | 2,_=>show _≤aX;omega
   | 3,_=>show _≤tR;omega
   | 4,_=>show _≤tX;omega
   | 5,_=>show _≤L;omega
   | 6,_=>show _≤iR;omega
   | 7,_=>show _≤iX;omega
   | 8,_=>show _≤bR;omega
   | 9,_=>show _≤bX;omega
   | 10,_=>show _≤cR;omega
   | 11,_=>show _≤cX;omega
   | 12,_=>show _≤cl;omega
  have hkW:=HK5.out.trans hW
  have gl:3<w.heap.size∧4<w.heap.size∧2<w.heap.size :=
   ⟨World.block_lt_of_cell? _ _ (HTS.out.1.lim 0 1 rfl),World.block_lt_of_cell? _ _ (HTS.out.1.kind 0 [] rfl),World.block_lt_of_cell? _ _ (HTS.out.2 0 2 rfl)⟩
  refine ⟨⟨Nz rfl ?_,?_,?_,HT5.out.still hW,⟨List.replicate ((NN+1+63)/64) 0,?_,?_⟩,?_,?_,hcl,rfl,rfl,?_,TR.out,HTS.out.1.keep hkW,HTS.out.2.keep hkW,fun i hi=>?_⟩,fun i hi=>by have:=hge i hi;omega⟩
  ·simp only [List.nodup_cons,List.mem_cons,List.not_mem_nil,or_false,not_or,List.nodup_nil,and_true,not_false_eq_true]
   clear hd hcl hc hW hkW hge gl
   refine ⟨⟨?_,?_,?_,?_,?_,?_,?_,?_,?_,?_,?_,?_⟩,⟨?_,?_,?_,?_,?_,?_,?_,?_,?_,?_,?_⟩,⟨?_,?_,?_,?_,?_,?_,?_,?_,?_,?_⟩,⟨?_,?_,?_,?_,?_,?_,?_,?_,?_⟩,⟨?_,?_,?_,?_,?_,?_,?_,?_⟩,⟨?_,?_,?_,?_,?_,?_,?_⟩,⟨?_,?_,?_,?_,?_,?_⟩,⟨?_,?_,?_,?_,?_⟩,⟨?_,?_,?_,?_⟩,⟨?_,?_,?_⟩,⟨?_,?_⟩,?_⟩<;>omega
  ·show Blk W d0 _ _
   simpa [HS.new,uf] using hd
  ·show bM W aR aX (List.replicate (b*ww) 0)
   rw [← HNN.out];exact HA5.out.still hW
  ·show aS W L iR iX aR tR (b*ww+1) _ [0,0,0,0]
   rw [← HNN.out];exact HL5.out.still hW
  ·intro m
   show iG (b*ww+1) _ _=false
   unfold iG
   rw [Io];simp
  ·show jq W bR bX (b*ww+1) (fun _=>false)
   rw [← HNN.out];exact EZ (HS5.out.still hW)
  ·show jq W cR cX (b*ww+1) (fun _=>false)
   rw [← HNN.out];exact EZ hc
  ·show (nc:Int)=((List.replicate nc 0).length:Int)
   simp
  ·have h9:=hge i hi
   exact ⟨by omega,by omega,by omega⟩
 have ug:Hid (∀ W,Keep none_ w5 W→W.cell? ⟨w.heap.size,4,none⟩=some (.int .i64 (nc:Int))):=fun W hW=>hW.still (HB5.out.cell 4 rfl)
 have y4:=ug.out w5 (Keep.refl _ _)
 have HKW:=Lib.hid HK5.out
 clear HK5 HT5 HB5 HA5 HL5 HS5 HG5 HG4 HG3 HS2 HG1 TR HTS HK4 HK3 HK2 HK1 HBN HAN HNN HSZ
 go_wp2_with fail
 go_region_held3 (fun w'=>w'.cell? ⟨w.heap.size,4,none⟩=some (.int .i64 (nc:Int)))
  (first | exact ug.out _ (Keep.refl _ _) | exact ug.out _ (Keep.refl _ _).drew | exact ug.out _ ((Keep.refl _ _).alloc _) | exact ug.out _ ((Keep.refl _ _).alloc _).drew | exact ug.out _ ((Keep.refl _ _).drew.alloc _) | exact ug.out _ HK6.out | exact ug.out _ (HK6.out.alloc _) | exact ug.out _ ((HK6.out.alloc _).alloc _) | fail "iw")
  ((go_at_call 88
    refine (HCP.out _ (by first | exact (Keep.refl _ _).drew | exact ((Keep.refl _ _).alloc _).drew | exact (Keep.refl _ _).drew.alloc _ | fail "jc")).mono ?_
    rintro e w6 ⟨cR,cX,rfl,hc,g1,g2,hk6⟩
    have HC6:=Lib.hid hc
    have HG6:=Lib.hid (And.intro g1 g2)
    have Vt:=Lib.hid hk6
    have HK6 : Hid (Keep none_ w5 w6) := by first | exact (Keep.refl _ _).drew.trans hk6 | exact ((Keep.refl _ _).alloc _).drew.trans hk6 | exact ((Keep.refl _ _).drew.alloc _).trans hk6 | fail "V4"
    clear hc g1 g2 hk6))
 all_goals
  go_wp2_with fail
  go_ret2
 ·
  have hz:zeros (.int .i64 0) nc=aC (List.replicate nc 0):=by simp [zeros,aC]
  have hs5:=HK6.out.size
  have k7:Keep none_ w6 ((w6.alloc (.cells (zeros (.int .i64 0) nc).toArray 3)).alloc (.cells #[.pointer (some ⟨aR,0,none⟩),.pointer (some ⟨tR,0,none⟩),.pointer (some ⟨L,0,none⟩),.pointer (some ⟨bR,0,none⟩),.pointer (some ⟨cR,0,none⟩),.slice (some ⟨w6.heap.size,0,none⟩) nc nc] 101)):=((Keep.refl _ _).alloc _).alloc _
  have hcl:=(Blk.new w6 (zeros (.int .i64 0) nc) 3).alloc (.cells #[.pointer (some ⟨aR,0,none⟩),.pointer (some ⟨tR,0,none⟩),.pointer (some ⟨L,0,none⟩),.pointer (some ⟨bR,0,none⟩),.pointer (some ⟨cR,0,none⟩),.slice (some ⟨w6.heap.size,0,none⟩) nc nc] 101)
  have hd:=Blk.new (w6.alloc (.cells (zeros (.int .i64 0) nc).toArray 3)) [.pointer (some ⟨aR,0,none⟩),.pointer (some ⟨tR,0,none⟩),.pointer (some ⟨L,0,none⟩),.pointer (some ⟨bR,0,none⟩),.pointer (some ⟨cR,0,none⟩),.slice (some ⟨w6.heap.size,0,none⟩) nc nc] 101
  rw [World.size_alloc] at hd
  have hlt:cX<w6.heap.size:=by obtain ⟨_,h9,_⟩:=HC6.out.wds;exact h9.lt
  have g6:=HG6.out
  have E5:=dO.out cR cX w6.heap.size (w6.heap.size+1) _ (HK6.out.trans k7) (HC6.out.still k7) (by rw [← hz];exact hcl) hd (by first|omega|exact g6.1|(have:=g6.1;simp at this;omega)) (by first|omega|exact g6.2|(have:=g6.2;simp at this;omega)) hs5 (by omega) (by omega)
  exact ⟨_,rfl,E5.1,E5.2,HKW.out.trans (HK6.out.trans k7)⟩
 ·
  have hz:zeros (.int .i64 0) nc=aC (List.replicate nc 0):=by simp [zeros,aC]
  have hs5:=HK6.out.size
  have k7:Keep none_ w6 (w6.alloc (.cells #[.pointer (some ⟨aR,0,none⟩),.pointer (some ⟨tR,0,none⟩),.pointer (some ⟨L,0,none⟩),.pointer (some ⟨bR,0,none⟩),.pointer (some ⟨cR,0,none⟩),.slice (some ⟨w5.heap.size,0,none⟩) nc nc] 101)):=(Keep.refl _ _).alloc _
  have hcl0:=(Vt.out.blk ((Blk.new w5 (zeros (.int .i64 0) nc) 3).drew) (fun f=>f))
  have hcl:=hcl0.alloc (.cells #[.pointer (some ⟨aR,0,none⟩),.pointer (some ⟨tR,0,none⟩),.pointer (some ⟨L,0,none⟩),.pointer (some ⟨bR,0,none⟩),.pointer (some ⟨cR,0,none⟩),.slice (some ⟨w5.heap.size,0,none⟩) nc nc] 101)
  have hd:=Blk.new w6 [.pointer (some ⟨aR,0,none⟩),.pointer (some ⟨tR,0,none⟩),.pointer (some ⟨L,0,none⟩),.pointer (some ⟨bR,0,none⟩),.pointer (some ⟨cR,0,none⟩),.slice (some ⟨w5.heap.size,0,none⟩) nc nc] 101
  have g6:=HG6.out
  have g61:w5.heap.size+1≤cR:=by have:=g6.1;simpa using this
  have g62:w5.heap.size+1≤cX:=by have:=g6.2;simpa using this
  have E5:=dO.out cR cX w5.heap.size w6.heap.size _ (HK6.out.trans k7) (HC6.out.still k7) (by rw [← hz];exact hcl) hd (by omega) (by omega) (Nat.le_refl _) hs5 (by omega)
  exact ⟨_,rfl,E5.1,E5.2,HKW.out.trans (HK6.out.trans k7)⟩
end
end Go.Proofs.YtanfphjoebobaaaGreatDoor
