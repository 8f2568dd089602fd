/- Parts of the iy. No conditions. -/
import Derived.Test.YtanfphjoebobaaaGreatDoorZzfp
import Derived.Test.YtanfphjoebobaaaGreatDoorZzfq
import Derived.Test.YtanfphjoebobaaaGreatDoorZzfr
namespace Go.Proofs.YtanfphjoebobaaaGreatDoor
open _root_.Go.World renaming block_lt_of_cell?->akl,drew->ajr
open _root_.List renaming drop_succ_cons->ajt,drop_zero->ajn,eq_of_mem_replicate->akv,getD_eq_getElem?_getD->ajg,getElem?_eq_getElem->ajh,getElem?_eq_some_iff->ake,nodup_nil->akQ,pairwise_iff_getElem->akR,replicate->ajj,take_zero->ajs
open _root_.Nat renaming le_refl->aje,lt_of_lt_of_le->ajf
open _root_.Go.Proofs.Tryz hiding prog
open _root_.Go.Proofs.Tryz renaming prog->aA
set_option maxRecDepth 100000
set_option maxHeartbeats 8000000
section
attribute [local go_sem] Oper.semAt_some
open Go.RowKit
section
variable {o:Ow} {w w':World} {G:fU} {g:MG} {s:Sh} {m:MS} {nv:Value} {ev:Option Ev}
theorem Ph {c:Nat}:∀ l:List Nat,JW (oZ c l)=true
 | []=>rfl
 | _::l=>OZ (Ph l)
structure Pj (o:Ow) (w:World) (N M Nt b st dQ:Nat) (aW:List Nat) (j:Nat) (W:World):Prop where
 aK:aj aB w W
 mb:aF W b [aJ M] 56
 kD:N<=W.heap.size
 st:∃ fn caps,aF W st [.func (.func fn) #[] caps] 88/\fE o W Nt M (oZ dQ (aW.drop (aW.length - j))) (.func (.func fn) #[] caps)
theorem Pj.own {N M Nt b st dQ:Nat} {aW:List Nat} {B:Nat} (hB:w.heap.size<=B):OwnFrom B (Pj o w N M Nt b st dQ aW):=by
 rintro j W W' row ⟨h1,h2,hN,fn,caps,h3,h4⟩ hg hr
 refine ⟨yC (β:=Nat) hB j W W' row h1 hg hr,nZ (β:=Nat) (cs:=fun _=>_) j W W' row h2 hg hr,Nat.le_trans hN hg.size,fn,caps,nZ (β:=Nat) (cs:=fun _=>_) j W W' row h3 hg hr,?_⟩
 exact h4.kN (fun b cs T h5 h6=>⟨h5,nZ (β:=Nat) (cs:=fun _=>cs) j W W' row h6 hg hr⟩)
theorem SQ (h:bM o w G g s m ev nv):Calls aA 91 #[au g.M,ah 3] w fun e w'=>∃ fn caps,e = .returned (.func (.func fn) #[] caps)/\fE o w' g.Nt g.M (oZ m.dQ m.aW) (.func (.func fn) #[] caps)/\aj aB w w':=by
 obtain ⟨W1,hW1⟩:∃ W1,W1=w.alloc (.cells #[aJ g.M] 56):=⟨_,rfl⟩
 have k1:aj aB w W1:=by rw [hW1];exact (aj.refl _ _).alloc _
 have hb1:aF W1 w.heap.size [aJ g.M] 56:=by rw [hW1];exact aF.bC w _ _
 have ho:o w.heap.size=0:=h.sh.iV _ (aje _)
 have HL:=ay ((Ho (Nt:=g.Nt) (h.sh.iV.aK k1) 3 133 #[au w.heap.size] (by unfold yN;rw [aT (by decide),aT (by decide),aZ rfl];exact ⟨[w.heap.size],rfl,_,_,rfl,ho,hb1,rfl⟩) w.heap.size ho hb1))
 have acF:Hid (∀ W,aj aB w W->W.cell? ⟨g.M,11,none⟩=some (au g.Nt)/\W.cell? ⟨g.M,14,none⟩=some (ah (m.dQ:Int))/\W.cell? ⟨g.M,9,none⟩=some (.slice (some ⟨g.X,0,none⟩) m.aW.length m.aW.length)/\aF W g.X (aS m.aW) 3/\kJ o W):=fun W hW=>⟨(h.still hW).c11,(h.still hW).c14,(h.still hW).c9,(h.still hW).aW,(h.still hW).sh.iV⟩
 have hr64:=h.rle
 have Wu:Hid (g.X<w.heap.size):=h.aW.lt
 have HW1:=ay hW1
 have hmf:=mV
 have bI:=ay k1
 have HB1:=ay hb1
 generalize m.dQ=mw at *
 generalize m.aW=aW at *
 clear h hW1 k1 hb1 ho
 refine (callsIn_wide (n:=9)).1 ?_
 refine callsIn_of_wp_marks func91 rfl trivial ?_ rfl
 refine wpIn_wide.2 ?_
 simp only [ntmps91,List.size_toArray,List.length_cons,List.length_nil,Nat.reduceAdd,Nat.reduceSub,Array.replicate_succ,Array.replicate_zero,List.push_toArray,List.append_toArray,List.nil_append,List.cons_append]
 go_wp2_with fail
 rw [<- HW1.out]
 refine HL.out.mono ?_
 rintro e w2 ⟨fn,caps,rfl,h2,k2⟩
 obtain ⟨W3,hW3⟩:∃ W3,W3=w2.alloc (.cells #[.func (.func fn) #[] caps] 88):=⟨_,rfl⟩
 have k3:aj aB w2 W3:=by rw [hW3];exact (aj.refl _ _).alloc _
 have hst:aF W3 w2.heap.size [.func (.func fn) #[] caps] 88:=by rw [hW3];exact aF.bC w2 _ _
 have e3:W3.heap.size=w2.heap.size+1:=by rw [hW3];simp
 have kw2:aj aB w w2:=bI.out.trans k2
 have kw3:aj aB w W3:=kw2.trans k3
 obtain ⟨f11,f14,f9,fX,fF⟩:=acF.out W3 kw3
 have fb:=(k2.trans k3).aH HB1.out (fun f=>f)
 have cb:W3.cell? ⟨w.heap.size,0,none⟩=some (au g.M):=fb.cell 0 rfl
 have cbx:∀ x,(w2.alloc x).cell? ⟨w.heap.size,0,none⟩=some (au g.M):=fun x=>((k2.aH HB1.out (fun f=>f)).alloc x).cell 0 rfl
 have f9x:∀ x,(w2.alloc x).cell? ⟨g.M,9,none⟩=some (.slice (some ⟨g.X,0,none⟩) aW.length aW.length):=fun x=>(acF.out _ (kw2.trans ((aj.refl _ _).alloc x))).2.2.1
 obtain ⟨o2,ho2⟩:∃ o2,o2=o.put w2.heap.size 99:=⟨_,rfl⟩
 have hext:bZ w2 o o2:=by rw [ho2];exact Ow.pF (.inl (aje _))
 have hst2:o2 w2.heap.size=99:=by rw [ho2];exact Ow.qW _ _ _
 have hfut2:kJ o2 W3:=by rw [ho2];exact Ow.um fF (aje _) (by omega)
 have ahu:Hid (∀ W d v,fE o2 W g.Nt g.M d v->fE o W g.Nt g.M d v):=fun W d v hd=>hd.kN (fun b cs T h5 h6=>⟨by rw [ho2] at h5;unfold Ow.put at h5;split at h5<;>first|exact h5|omega,h6⟩)
 obtain ⟨W4,l9⟩:∃ W4,W4=W3.alloc (.cells #[.slice (some ⟨g.X,0,none⟩) aW.length aW.length] 32):=⟨_,rfl⟩
 have k4:aj aB W3 W4:=by rw [l9];exact (aj.refl _ _).alloc _
 have hbx:aF W4 W3.heap.size [.slice (some ⟨g.X,0,none⟩) aW.length aW.length] 32:=by rw [l9];exact aF.bC W3 _ _
 have e4:W4.heap.size=W3.heap.size+1:=by rw [l9];simp
 have ND:Hid (JE Fence.wide 8 aA 170 #[au W3.heap.size] (vM aW) Fj (xP W3.heap.size g.X) W4):=acC aW W3.heap.size g.X hr64 8 W4 hbx (k4.aH fX (fun f=>f))
 have HI0:Hid (Pj o2 w W4.heap.size g.M g.Nt w.heap.size w2.heap.size mw aW 0 W4):=⟨kw3.trans k4,k4.aH fb (fun f=>f),aje _,fn,caps,k4.aH hst (fun f=>f),by
  rw [Nat.sub_zero,List.drop_length]
  exact (((fE.ext hext h2).still k3).still k4)⟩
 have AO:Hid (∀ i,xP W3.heap.size g.X i->i<W4.heap.size/\i≠w2.heap.size):=by
  have h5:=kw2.size
  rintro i (rfl|rfl)
  ·exact ⟨by omega,by omega⟩
  ·have:=Wu.out;exact ⟨by omega,by omega⟩
 have DC:Hid (w.heap.size<w2.heap.size/\w2.heap.size<W4.heap.size):=by
  have h5:=k2.size
  have h6:W1.heap.size=w.heap.size+1:=by rw [HW1.out];simp
  exact ⟨by omega,by omega⟩
 have HF2:Hid (∀ W,W3.heap.size<=W.heap.size->kJ o2 W):=fun W hW=>hfut2.later hW
 have Hl:=ay hst2
 have HW3:=ay hW3
 have HW4:=ay l9
 have Pm:=ay e4
 clear h2 k2 k3 hst e3 kw2 kw3 f11 f14 fX fF fb ho2 hext hst2 hfut2 k4 hbx e4 hW3 l9 HL bI HB1
 go_wp2_with fail
 rw [<- HW3.out]
 refine (O7 _ _ _ _).mono ?_
 rintro e w4 ⟨rfl,hw4⟩
 rw [<- HW4.out] at hw4
 subst hw4
 clear cb f9 cbx f9x
 go_wp2_with fail
 refine wpIn_wide (n:=9) |>.1 ?_
 refine Nw rfl (by decide) (gf:=170) (lb:=#[au W3.heap.size]) rfl trivial (fun args w=>by simp [callFunc,func170,go_sem];rfl) (all:=vM aW) (Enc:=Fj) (G:=xP W3.heap.size g.X)
  ND.out ?hG ?hps
  (fun j W=>Pj o2 w w4.heap.size g.M g.Nt w.heap.size w2.heap.size mw aW j W)
  (fun _ _ _=>False)
  ?hI ?hIx ?h0 ?round ?done ?stop
 case hI=>exact Pj.own (by have:=DC.out;omega)
 case hIx=>exact fun c s W W' row h hg hr=>h
 case h0=>exact HI0.out
 case hG=>exact fun i hi=>(AO.out i hi).1
 case hps =>
  rintro W x args h
  rw [h];rfl
 case stop=>exact fun D c k W hD hk h=>h.elim
 case round =>
  rintro l j x args W hx henc hI
  have hj:j<aW.length:=by
   have h:=(ake.1 hx).1
   rwa [yj] at h
  rw [FM hj] at hx
  injection hx with hx
  subst hx
  obtain ⟨x,hx⟩:∃ x,x=aW.getD (aW.length - 1 - j) 0:=⟨_,rfl⟩
  obtain ⟨y,hy⟩:∃ y:Nat,y=aW.length - 1 - j:=⟨_,rfl⟩
  obtain rfl:args=#[ah (y:Int),ah (x:Int)]:=by rw [hx,hy];exact henc
  have HX:=ay hx
  clear hx hy henc
  have HI:=ay hI
  clear hI
  gi_wp2_with fail
  refine ⟨fun W=>Pj o2 w w4.heap.size g.M g.Nt w.heap.size w2.heap.size mw aW j W,KeepsFrom.refl _ _,jG.refl _ _,HI.out,(fun _ W' W'' row h hg hr=>Pj.own (by have:=DC.out;omega) j W' W'' row h hg hr),?_⟩
  clear HI
  rintro W2 hI
  have Jg:Hid (w4.heap.size<=W2.heap.size):=hI.kD
  obtain ⟨q11,q14,-,-,-⟩:=acF.out W2 hI.aK
  have qb:W2.cell? ⟨w.heap.size,0,none⟩=some (au g.M):=hI.mb.cell 0 rfl
  obtain ⟨fn1,caps1,hs1,hc1⟩:=hI.st
  have qs:=hs1.cell 0 (v := .func (.func fn1) #[] caps1) rfl
  have fs:=hs1.free 0
  have hkd:aj aB W2 W2.drew:=(aj.refl aB W2).drew
  have hx:=HX.out
  have hsc:oZ mw (aW.drop (aW.length - (j+1)))=pJ x mw (oZ mw (aW.drop (aW.length - j))):=by
   have hq:aW.length - (j+1)<aW.length:=by omega
   rw [List.drop_eq_getElem_cons hq]
   have e1:aW.length - (j+1)+1=aW.length - j:=by omega
   have e2:aW[aW.length - (j+1)]=x:=by
    rw [hx,ajg,show aW.length - 1 - j=aW.length - (j+1) by omega,ajh hq];rfl
   rw [e1,e2];rfl
  have HN:Hid (Calls aA 135 #[au g.Nt,ah (x:Int),ah (mw:Int),.func (.func fn1) #[] caps1] W2.drew fun e w3=>∃ fn caps,e = .returned (.func (.func fn) #[] caps)/\w3.frozen? ⟨w2.heap.size,0,none⟩=false/\w3.cell? ⟨w2.heap.size,0,none⟩=some (.func (.func fn1) #[] caps1) /\
   Pj o2 w w4.heap.size g.M g.Nt w.heap.size w2.heap.size mw aW (j+1) (w3.setCell ⟨w2.heap.size,0,none⟩ (.func (.func fn) #[] caps))/\KeepsFrom w4.heap.size W2 (w3.setCell ⟨w2.heap.size,0,none⟩ (.func (.func fn) #[] caps))/\jG (xP W3.heap.size g.X) W2 (w3.setCell ⟨w2.heap.size,0,none⟩ (.func (.func fn) #[] caps))):=by
   refine (X0 (HF2.out W2.drew (by have:=Pm.out;have:=Jg.out;have:=hkd.size;omega)) x mw (oZ mw (aW.drop (aW.length - j))) _ (hc1.still hkd) (Ph _)).mono ?_
   rintro e w3 ⟨fn,caps,rfl,h5,k5⟩
   have k6:aj aB W2 w3:=hkd.trans k5
   have hs3:=k6.aH hs1 (fun f=>f)
   have kp:aj (only w2.heap.size) w3 (w3.setCell ⟨w2.heap.size,0,none⟩ (.func (.func fn) #[] caps)):=(aj.refl _ _).put 0 _
   have h01:=DC.out
   refine ⟨fn,caps,rfl,hs3.free 0,hs3.cell 0 rfl,⟨?_,?_,?_,fn,caps,hs3.set 0 _,?_⟩,?_,?_⟩
   ·exact (hI.aK.trans k6).iP (by omega) _ _
   ·exact kp.aH (k6.aH hI.mb (fun f=>f)) (fun e=>by unfold only at e;omega)
   ·have h7:=hI.kD;have h8:=k6.size;simp;omega
   ·rw [hsc]
    exact h5.aK kp (fun b hb e=>by unfold only at e;rw [e,Hl.out] at hb;cases hb)
   ·exact (KeepsFrom.sG k6).trans ((KeepsOthers.setCell _ _ _).from _)
   ·refine (jG.sG k6 (fun i hi=>⟨ajf (AO.out i hi).1 Jg.out,fun f=>f⟩)).trans ⟨by simp,fun i hi=>?_⟩
    rw [Below.heap_setCell _ _ _ _ (by simp;exact (AO.out i hi).2)]
  clear hsc hx hI hs1 hc1 hkd
  gi_wp2_with fail
  refine Ei 10 (by kernel_rfl) (by kernel_rfl) (by kernel_rfl) ?_
  change wpStill _ _ (ajr _) _ _ _
  simp only [List.take_succ_cons,ajs,ajt,ajn]
  repeat still_step
  refine wpStill_nil ?_
  change wpListIn _ _ _ _ _ _ _ W2.drew
  gi_wp2_with fail
  refine ⟨trivial,CallsIn.mono (CallsIn.inRound l (callsIn_wide.2 HN.out)) ?_⟩
  rintro e w3 ⟨fn3,caps3,rfl,hf3,hc3,hend⟩
  have iH:=ay hend
  clear hend HN qs fs qb q11 q14
  gi_wp2_with fail
  exact ⟨iH.out.2.1,iH.out.2.2,iH.out.1⟩
 case done =>
  rintro D W hD hI EG
  rw [yj] at hI
  obtain ⟨fn1,caps1,hs1,hc1⟩:=hI.st
  have cO:=hs1.cell 0 (v := .func (.func fn1) #[] caps1) rfl
  have Rw:=hI.aK.takeDeferred (D:=D) (by have h1:=DC.out;omega) (.deferred none)
  have qO:Hid (fE o (W.putObj D (.deferred none)) g.Nt g.M (oZ mw aW) (.func (.func fn1) #[] caps1)):=by
   rw [Nat.sub_self,ajn] at hc1
   refine ahu.out _ _ _ (hc1.kN (fun b cs T h5 h6=>⟨h5,h6.putObj EG rfl⟩))
  clear hI hs1 hc1
  go_wp2_with fail
  refine ⟨by simp,.inl ⟨_,_,rfl,run_takeDeferred EG,?_⟩⟩
  refine ⟨.func (.func fn1) #[] caps1,by simp [results,Tryz.f91,go_sem],fn1,caps1,rfl,qO.out,Rw⟩
end
def I5 (m:MS) (k:Int):MD:=if k=3 then oZ m.dQ m.aW else if k=5 then m.pK m.dQ (.once 5) else .once k
section
variable {o:Ow} {w w':World} {G:fU} {g:MG} {s:Sh} {m:MS} {nv:Value} {ev:Option Ev}
theorem Vx (h:bM o w G g s m ev nv) (k:Int):Calls aA 91 #[au g.M,ah k] w fun e w'=>∃ fn caps,e = .returned (.func (.func fn) #[] caps)/\fE o w' g.Nt g.M (I5 m k) (.func (.func fn) #[] caps)/\aj aB w w':=by
 unfold I5
 by_cases h3:k=3
 ·subst h3;rw [aZ rfl];exact SQ h
 rw [aT h3]
 by_cases h5:k=5
 ·subst h5;rw [aZ rfl];exact SN h
 rw [aT h5]
 exact SL h.sh.iV k ⟨h3,h5⟩
theorem Vy (h:s.B.bF m.id=true):fG s m=I5 m s.B.kind:=by
 unfold fG I5
 rw [aZ h]
theorem bM.QS (h:bM o w G g s m ev nv):∃ a c,w.cell? ⟨g.M,15,none⟩=some (.slice a m.prog.length c)/\m.prog.length<=1000/\∀ i op,m.prog[i]?=some op->∃ b off,a=some ⟨b,off,none⟩/\∀ j u,op.cells[j]?=some u->w.cell? ⟨b,off+i*4+j,none⟩=some u:=by
 obtain ⟨pv,rv,h1,⟨a,c,rfl,h2,h3⟩,_⟩:=h.aH
 refine ⟨a,c,h1.cell 15 rfl,h2,fun i op hi=>?_⟩
 obtain ⟨b,off,cs,e1,_,e3,e4⟩:=h3 (by have:=(ake.1 hi).1;omega)
 exact ⟨b,off,e1,fun j u hj=>e3.cell _ (e4 i op hi j u hj)⟩
theorem bM.begin0 (h:bM o w G g s m none nv) (p:Bool) {b:Nat} (hb:aF w b [aJ g.M] 56) (ho:o b=0):∀ W2,W2=w.setCell ⟨g.M,22,none⟩ (.bool p) ->
 bM o W2 G g s { m with mg:=p } none nv/\aj (In o [20+m.id]) w W2/\aF W2 b [aJ g.M] 56:=by
 rintro W2 rfl
 obtain ⟨h3,k3⟩:=h.put 22 (.bool p) { m with mg:=p } none nv (fun pv rv=>rfl) ⟨rfl,rfl,rfl,rfl,rfl,rfl⟩
 exact ⟨h3,k3,hb.bg k3 ho (by simp<;>omega)⟩
def Ej (o:Ow) (w:World) (G:fU) (g:MG) (s:Sh) (m:MS) (nv:Value) (p:Bool):Ending->World->Prop:=fun e w'=>∃ v,e = .returned v/\bM o w' G g s { m with mg:=p } none nv/\fE o w' g.Nt g.M (fG s m) v/\aj (In o [20+m.id]) w w'
theorem Yg (h:bM o w G g s m none nv) (hp:s.B.bF m.id=true):Calls aA 48 #[au g.M] w (Ej o w G g s m nv true):=by
 obtain ⟨W1,hW1⟩:∃ W1,W1=w.alloc (.cells #[aJ g.M] 56):=⟨_,rfl⟩
 have k1:aj aB w W1:=by rw [hW1];exact (aj.refl _ _).alloc _
 have hb1:aF W1 w.heap.size [aJ g.M] 56:=by rw [hW1];exact aF.bC w _ _
 have ho:o w.heap.size=0:=h.sh.iV _ (aje _)
 have h1:=h.still k1
 have c0:W1.cell? ⟨w.heap.size,0,none⟩=some (au g.M):=hb1.cell 0 rfl
 have c1:=h1.m0
 have c2:=h1.s0.2.1
 have c3:=h1.c8
 have Hq:Hid (aj aB W1 W1.drew):=(aj.refl aB W1).drew
 have HP:=ay (Ar (p:=true) (k:=s.B.vH m.id) (h1.still Hq.out).sh.rH hp rfl)
 have Dh:Hid (∀ W,aj aB W1 W->W.cell? ⟨w.heap.size,0,none⟩=some (au g.M)/\W.frozen? ⟨g.M,22,none⟩=false/\W.cell? ⟨g.M,22,none⟩=some (.bool m.mg) /\
  ∀ W2,W2=W.setCell ⟨g.M,22,none⟩ (.bool true)->W2.cell? ⟨w.heap.size,0,none⟩=some (au g.M)/\(∃ a c,W2.cell? ⟨g.M,16,none⟩=some (.slice a m.dG.length c)) /\
   Hid (Calls aA 91 #[au g.M,ah (s.B.vH m.id)] W2 fun e w'=>∃ fn caps,e = .returned (.func (.func fn) #[] caps)/\Hid (Ej o w G g s m nv true (.returned (.func (.func fn) #[] caps)) w'))):=fun W hW=>by
  have h2:=h1.still hW
  have hb2:=hW.aH hb1 (fun f=>f)
  refine ⟨hb2.cell 0 rfl,h2.free 22,h2.cell 22 _ (fun _ _=>rfl),fun W2 hW2=>?_⟩
  obtain ⟨h3,k3,hb3⟩:=h2.begin0 true hb2 ho W2 hW2
  obtain ⟨rv,er,_,ra,rc,LC⟩:=h3.NM
  refine ⟨hb3.cell 0 rfl,⟨ra,rc,by rw [er,LC]⟩,?_⟩
  have ek:s.B.vH m.id=s.B.kind:=by unfold Bd.vH;rw [aZ hp]
  rw [ek]
  refine (Vx h3 s.B.kind).mono ?_
  rintro e w' ⟨fn,caps,rfl,h4,k4⟩
  refine ⟨fn,caps,rfl,_,rfl,h3.still k4,?_,(k1.bV.trans hW.bV).trans (k3.trans k4.bV)⟩
  rw [Vy hp];exact h4
 have HW1:=ay hW1
 generalize s.B.vH m.id=kd at *
 generalize m.mg=an at *
 generalize m.dG.length=rl at *
 clear h h1 hW1 k1 hb1 ho hp
 generalize Ej o w G g s m nv true=PO at *
 go_enter func48,ntmps48
 go_wp2_with fail
 rw [<- HW1.out]
 refine bG 11 rfl (by kernel_rfl) (by kernel_rfl) (fun K hK=>?_)
 change wpStill _ _ (ajr _) _ _ _
 simp only [List.take_succ_cons,ajs,ajt,ajn] at hK ⊢
 repeat still_step
 refine wpStill_nil ?_
 change ite _ (Oper.wp _ _ _ _ _ _) _
 go_simp
 refine HP.out.mono ?_
 rintro e w2 ⟨rfl,hw2⟩
 refine hK _ _ ?_
 clear hK K
 obtain ⟨d0,d1,d2,hs⟩:=Dh.out w2 (by rw [<- hw2];exact Hq.out)
 obtain ⟨W2,hW2⟩:∃ W2,W2=w2.setCell ⟨g.M,22,none⟩ (.bool true):=⟨_,rfl⟩
 obtain ⟨e0,⟨ra,rc,e1⟩,HE⟩:=hs W2 hW2
 have HW2:=ay hW2
 rw [hW2] at e0 e1
 clear c0 c1 c2 c3 HP hs hW2 hw2 Dh Hq
 repeat still_step
 refine wpStill_nil ?_
 go_wp2_with fail
 rw [<- HW2.out]
 refine HE.out.mono ?_
 rintro e w3 ⟨fn,caps,rfl,HR⟩
 go_wp2_with fail
 exact HR.out
theorem Yh (h:bM o w G g s m none nv) (hp:s.B.bF m.id=false) (hlt:¬ m.dG.length<m.prog.length):Calls aA 48 #[au g.M] w (Ej o w G g s m nv false):=by
 obtain ⟨W1,hW1⟩:∃ W1,W1=w.alloc (.cells #[aJ g.M] 56):=⟨_,rfl⟩
 have k1:aj aB w W1:=by rw [hW1];exact (aj.refl _ _).alloc _
 have hb1:aF W1 w.heap.size [aJ g.M] 56:=by rw [hW1];exact aF.bC w _ _
 have ho:o w.heap.size=0:=h.sh.iV _ (aje _)
 have h1:=h.still k1
 have c0:W1.cell? ⟨w.heap.size,0,none⟩=some (au g.M):=hb1.cell 0 rfl
 have c1:=h1.m0
 have c2:=h1.s0.2.1
 have c3:=h1.c8
 have Hq:Hid (aj aB W1 W1.drew):=(aj.refl aB W1).drew
 have HP:=ay (Ar (p:=false) (k:=s.B.vH m.id) (h1.still Hq.out).sh.rH hp rfl)
 have Dh:Hid (∀ W,aj aB W1 W->W.cell? ⟨w.heap.size,0,none⟩=some (au g.M)/\W.frozen? ⟨g.M,22,none⟩=false/\W.cell? ⟨g.M,22,none⟩=some (.bool m.mg) /\
  ∀ W2,W2=W.setCell ⟨g.M,22,none⟩ (.bool false)->W2.cell? ⟨w.heap.size,0,none⟩=some (au g.M)/\(∃ a c,W2.cell? ⟨g.M,16,none⟩=some (.slice a m.dG.length c))/\(∃ a c,W2.cell? ⟨g.M,15,none⟩=some (.slice a m.prog.length c)) /\
   Hid (Ej o w G g s m nv false (.returned .nilFunc) W2)):=fun W hW=>by
  have h2:=h1.still hW
  have hb2:=hW.aH hb1 (fun f=>f)
  refine ⟨hb2.cell 0 rfl,h2.free 22,h2.cell 22 _ (fun _ _=>rfl),fun W2 hW2=>?_⟩
  obtain ⟨h3,k3,hb3⟩:=h2.begin0 false hb2 ho W2 hW2
  obtain ⟨rv,er,_,ra,rc,LC⟩:=h3.NM
  obtain ⟨pa,pc,ep,_,_⟩:=h3.QS
  refine ⟨hb3.cell 0 rfl,⟨ra,rc,by rw [er,LC]⟩,⟨pa,pc,ep⟩,_,rfl,h3,?_,(k1.bV.trans hW.bV).trans k3⟩
  have hbe:fG s m = .nil:=by
   unfold fG
   rw [hp,aT (by decide),List.getElem?_eq_none (by omega)]
  rw [hbe];rfl
 have HW1:=ay hW1
 have lJ:¬ (m.dG.length:Int)<(m.prog.length:Int):=by omega
 have aiI:decide ((m.dG.length:Int)<(m.prog.length:Int))=false:=gJ lJ
 generalize s.B.vH m.id=kd at *
 generalize m.mg=an at *
 generalize m.dG.length=rl at *
 generalize m.prog.length=pl at *
 clear h h1 hW1 k1 hb1 ho hp hlt
 generalize Ej o w G g s m nv false=PO at *
 go_enter func48,ntmps48
 go_wp2_with fail
 rw [<- HW1.out]
 refine bG 11 rfl (by kernel_rfl) (by kernel_rfl) (fun K hK=>?_)
 change wpStill _ _ (ajr _) _ _ _
 simp only [List.take_succ_cons,ajs,ajt,ajn] at hK ⊢
 repeat still_step
 refine wpStill_nil ?_
 change ite _ (Oper.wp _ _ _ _ _ _) _
 go_simp
 refine HP.out.mono ?_
 rintro e w2 ⟨rfl,hw2⟩
 refine hK _ _ ?_
 clear hK K
 obtain ⟨d0,d1,d2,hs⟩:=Dh.out w2 (by rw [<- hw2];exact Hq.out)
 obtain ⟨W2,hW2⟩:∃ W2,W2=w2.setCell ⟨g.M,22,none⟩ (.bool false):=⟨_,rfl⟩
 obtain ⟨e0,⟨ra,rc,e1⟩,⟨pa,pc,e2⟩,HE⟩:=hs W2 hW2
 rw [hW2] at e0 e1 e2 HE
 clear c0 c1 c2 c3 HP hs hW2 hw2 Dh Hq
 repeat still_step
 refine wpStill_nil ?_
 go_wp2_with fail
 exact HE.out
theorem aal (h:bM o w G g s m none nv) (hp:s.B.bF m.id=false) (hlt:m.dG.length<m.prog.length):Calls aA 48 #[au g.M] w (Ej o w G g s m nv false):=by
 obtain ⟨W1,hW1⟩:∃ W1,W1=w.alloc (.cells #[aJ g.M] 56):=⟨_,rfl⟩
 have k1:aj aB w W1:=by rw [hW1];exact (aj.refl _ _).alloc _
 have hb1:aF W1 w.heap.size [aJ g.M] 56:=by rw [hW1];exact aF.bC w _ _
 have ho:o w.heap.size=0:=h.sh.iV _ (aje _)
 have h1:=h.still k1
 have c0:W1.cell? ⟨w.heap.size,0,none⟩=some (au g.M):=hb1.cell 0 rfl
 have c1:=h1.m0
 have c2:=h1.s0.2.1
 have c3:=h1.c8
 have Hq:Hid (aj aB W1 W1.drew):=(aj.refl aB W1).drew
 have HP:=ay (Ar (p:=false) (k:=s.B.vH m.id) (h1.still Hq.out).sh.rH hp rfl)
 obtain ⟨op,eop⟩:∃ op,m.prog[m.dG.length]?=some op:=⟨_,ajh hlt⟩
 have Dh:Hid (∀ W,aj aB W1 W->W.cell? ⟨w.heap.size,0,none⟩=some (au g.M)/\W.frozen? ⟨g.M,22,none⟩=false/\W.cell? ⟨g.M,22,none⟩=some (.bool m.mg) /\
  ∀ W2,W2=W.setCell ⟨g.M,22,none⟩ (.bool false)->W2.cell? ⟨w.heap.size,0,none⟩=some (au g.M)/\(∃ a c,W2.cell? ⟨g.M,16,none⟩=some (.slice a m.dG.length c)) /\
   (∃ b off c,W2.cell? ⟨g.M,15,none⟩=some (.slice (some ⟨b,off,none⟩) m.prog.length c)/\W2.cell? ⟨b,off+m.dG.length*4,none⟩=some (ah op.k)/\W2.cell? ⟨b,off+m.dG.length*4+1,none⟩=some (ah op.a)/\W2.cell? ⟨b,off+m.dG.length*4+2,none⟩=some (ah op.b)/\W2.cell? ⟨b,off+m.dG.length*4+3,none⟩=some (ah op.c)) /\
   Hid (Ej o w G g s m nv false (.returned (.func (.func 92) #[] #[au w.heap.size,au W2.heap.size])) (W2.alloc (.cells #[ah op.k,ah op.a,ah op.b,ah op.c] 83)))):=fun W hW=>by
  have h2:=h1.still hW
  have hb2:=hW.aH hb1 (fun f=>f)
  refine ⟨hb2.cell 0 rfl,h2.free 22,h2.cell 22 _ (fun _ _=>rfl),fun W2 hW2=>?_⟩
  obtain ⟨h3,k3,hb3⟩:=h2.begin0 false hb2 ho W2 hW2
  obtain ⟨rv,er,_,ra,rc,LC⟩:=h3.NM
  obtain ⟨pa,pc,ep,_,hpo⟩:=h3.QS
  obtain ⟨pb,off,rfl,hcs⟩:=hpo _ op eop
  have k4:aj aB W2 (W2.alloc (.cells op.cells.toArray 83)):=(aj.refl _ _).alloc _
  refine ⟨hb3.cell 0 rfl,⟨ra,rc,by rw [er,LC]⟩,⟨pb,off,pc,ep,hcs 0 _ rfl,hcs 1 _ rfl,hcs 2 _ rfl,hcs 3 _ rfl⟩,_,rfl,h3.still k4,?_,(k1.bV.trans hW.bV).trans (k3.trans k4.bV)⟩
  have hbe:fG s m = .kU op:=by
   unfold fG
   rw [hp,aT (by decide),eop]
  rw [hbe]
  exact ⟨[w.heap.size,W2.heap.size],rfl,_,_,rfl,ho,k4.aH hb3 (fun f=>f),_,_,rfl,h3.sh.iV _ (aje _),aF.bC W2 op.cells _,rfl⟩
 have HW1:=ay hW1
 have hpl:m.prog.length<=1000:=by
  obtain ⟨_,_,_,h9,_⟩:=h.QS
  exact h9
 have lJ:(m.dG.length:Int)<(m.prog.length:Int):=by omega
 have aiJ:(m.prog.length:Int)<=1000:=by omega
 have hmf:=mV
 obtain ⟨ok,oa,ob,oc⟩:=op
 simp only at Dh
 generalize s.B.vH m.id=kd at *
 generalize m.mg=an at *
 generalize Ej o w G g s m nv false=PO at *
 generalize hrl:m.dG.length=rl at *
 generalize hpl2:m.prog.length=pl at *
 clear h h1 hW1 k1 hb1 ho hp eop hrl hpl2
 go_enter func48,ntmps48
 go_wp2_with fail
 rw [<- HW1.out]
 refine bG 11 rfl (by kernel_rfl) (by kernel_rfl) (fun K hK=>?_)
 change wpStill _ _ (ajr _) _ _ _
 simp only [List.take_succ_cons,ajs,ajt,ajn] at hK ⊢
 repeat still_step
 refine wpStill_nil ?_
 change ite _ (Oper.wp _ _ _ _ _ _) _
 go_simp
 refine HP.out.mono ?_
 rintro e w2 ⟨rfl,hw2⟩
 refine hK _ _ ?_
 clear hK K
 obtain ⟨d0,d1,d2,hs⟩:=Dh.out w2 (by rw [<- hw2];exact Hq.out)
 obtain ⟨W2,hW2⟩:∃ W2,W2=w2.setCell ⟨g.M,22,none⟩ (.bool false):=⟨_,rfl⟩
 obtain ⟨e0,⟨ra,rc,e1⟩,⟨pb,off,pc,e2,y0,y1,y2,y3⟩,HE⟩:=hs W2 hW2
 rw [hW2] at e0 e1 e2 HE y0 y1 y2 y3
 clear c0 c1 c2 c3 HP hs hW2 hw2 Dh Hq
 repeat still_step
 refine wpStill_nil ?_
 go_wp2_with fail
 have h9:=HE.out
 rw [show (w2.setCell ⟨g.M,22,none⟩ (.bool false)).heap.size=w2.heap.size from by simp] at h9
 exact h9
theorem Yi (h:bM o w G g s m none nv):Calls aA 48 #[au g.M] w (Ej o w G g s m nv (s.B.bF m.id)):=by
 cases hp:s.B.bF m.id with
 | true=>exact Yg h hp
 | false =>
   by_cases hlt:m.dG.length<m.prog.length
   ·exact aal h hp hlt
   ·exact Yh h hp hlt
end
section
variable {o:Ow} {w w':World} {G:fU} {g:MG} {s:Sh} {m:MS} {nv:Value} {ev:Option Ev}
theorem aam (h:bM o w G g s m ev nv):Calls aA 58 #[au g.M] w fun e w'=>∃ v,e = .returned v/\w'.ownsRow w.heap.size 3 1 v m.aW.length (aS m.aW)/\aj aB w w':=by
 have c:=h.c9
 have hle:=h.rle
 have HC:=ay (CO (some ⟨g.X,0,none⟩) m.aW.length m.aW.length (aS m.aW) w ⟨by simp [aS],fun _=>⟨g.X,0,rfl,fun j u hj=>by
  rw [Nat.zero_add]
  exact h.aW.cell j hj⟩⟩ (fun e=>by cases e) (by omega) (fun u hu=>by obtain ⟨z,_,rfl⟩:=List.mem_map.1 hu;rfl))
 generalize aS m.aW=vs at *
 generalize m.aW.length=n at *
 clear h
 go_enter func58,ntmps58
 go_wp2_with fail
 refine HC.out.mono ?_
 rintro e w1 ⟨v,rfl,h1,k1⟩
 have HE:=ay (And.intro h1 k1)
 clear h1 k1 HC
 go_wp2_with fail
 go_ret
 exact ⟨_,rfl,HE.out.1,HE.out.2⟩
theorem J3 (fn:Nat) (caps:Array Value):∀ w,(binOp .neq 88 (.func (.func fn) #[] caps) .nilFunc).run aA w = .ok (.bool true) w:=fun w=>by first|rfl|(simp [binOp,go_sem];done)|(simp [binOp,go_sem];rfl)
theorem ES:∀ w,(binOp .neq 88 .nilFunc .nilFunc).run aA w = .ok (.bool false) w:=fun w=>by first|rfl|(simp [binOp,go_sem];done)|(simp [binOp,go_sem];rfl)
theorem bM.c17 (h:bM o w G g s m ev nv):w.cell? ⟨g.M,17,none⟩=some nv:=h.cell 17 _ (fun _ _=>rfl)
theorem acG (h:bM o w G g s m ev .nilFunc):Calls aA 78 #[au g.M] w fun e w'=>e = .returned (.bool false)/\w=w':=by
 have c:=h.c17
 have hn:=ES
 clear h
 go_enter func78,ntmps78
 go_wp2_with fail
 go_ret
 exact ⟨rfl,rfl⟩
theorem aan {fn:Nat} {caps:Array Value} (h:bM o w G g s m ev (.func (.func fn) #[] caps)):Calls aA 78 #[au g.M] w fun e w'=>e = .returned (.bool true)/\w=w':=by
 have c:=h.c17
 have hn:=J3 fn caps
 clear h
 go_enter func78,ntmps78
 go_wp2_with fail
 go_ret
 exact ⟨rfl,rfl⟩
end
def HS.bC (c:bK) (b ww nc:Nat):HS:=⟨c,b,ww,ajj (b*ww) 0,ajj b 0,[[],[],[],[]],fun _=>false,fun _=>false,ajj nc 0⟩
theorem Yj (c:bK) (b ww nc:Nat) (h:b*ww<=1048576):eu (HS.bC c b ww nc):=by
 have hrow:∀ k,(HS.bC c b ww nc).row k=[]:=fun k=>by
  match k with
  | 0=>rfl
  | 1=>rfl
  | 2=>rfl
  | 3=>rfl
  | n+4=>rfl
 have hz:∀ a,(HS.bC c b ww nc).jf a=0:=fun a=>by
  unfold HS.jf vG HS.bC
  split
  ·rw [ajg,List.getElem?_replicate]
   split<;>rfl
  ·rfl
 refine ⟨by simp [HS.bC],h,fun x hx=>?_,fun x hx=>?_,rfl,fun k _=>?_,fun k _=>?_,fun k _ a ha=>?_,fun a ha=>?_,fun a _ _ _ => .inl (hz a),fun x hx=>?_,fun a _ _ _=>hz a⟩
 ·rw [akv hx];decide
 ·rw [akv hx];decide
 ·rw [hrow];trivial
 ·rw [hrow];exact akQ
 ·rw [hrow] at ha;cases ha
 ·cases ha
 ·rw [akv hx];exact Nat.zero_le _
theorem SS {w:World} {B X n:Nat} (h:jo w B X n (ajj ((n+63)/64) 0)):qP w B X n (fun _=>false) :=
 ⟨_,h,fun m=>by unfold oU;rw [V8];simp⟩
def FP (l:List Nat):Nat->Nat:=fun i=>l.getD i 0
theorem aao {l:List Nat} (hl:l.length=13) (hn:l.Nodup):∀ i j,i<13->j<13->FP l i=FP l j->i=j:=by
 intro i j hi hj e
 unfold FP at e
 rw [ajg,ajh (by omega),ajg,ajh (by omega)] at e
 simp only [Option.getD_some] at e
 rcases Nat.lt_trichotomy i j with h|h|h
 ·exact absurd e (akR.1 hn i j (by omega) (by omega) h)
 ·exact h
 ·exact absurd e.symm (akR.1 hn j i (by omega) (by omega) h)
theorem aez (c:bK) (b ww nc:Nat) (hok:c.ok=true) (hcb:c.b=b) (hcw:c.w=ww) (hcc:c.c=nc) (w:World) (hT:lu w) (hS:jk w):Calls aA 67 #[.agg c.cells.toArray] w fun e w'=>∃ D,e = .returned (.tuple #[au (D 0),ah 0])/\aI w' D (HS.bC c b ww nc)/\(∀ i,i<13->w.heap.size<=D i)/\aj aB w w':=by
 have hn:=qH hok hcb hcw
 have qV:=jC hok
 have hnc:nc<=64:=by omega
 have hmk:∀ w:World,(Instr.makeSlice 32 (ah (nc:Int)) (ah (nc:Int))).run aA w = .ok (.slice (some ⟨w.heap.size,0,none⟩) nc nc) (w.alloc (.cells (fV (ah 0) nc).toArray 3)) :=
  fun w=>yD (P:=aA) (by kernel_rfl) Tryz.infoInt rfl (by decide) nc (by omega) _ rfl w
 obtain ⟨W0,hW0⟩:∃ W',W'=w.alloc (.cells c.cells.toArray 23):=⟨_,rfl⟩
 have HK:Hid (aj aB w W0):=by rw [hW0];exact (aj.refl _ _).alloc _
 have HN:=ay (aee c b hok hcb W0 (hT.aK HK.out))
 have HB:=ay (show aF W0 w.heap.size c.cells 23 by rw [hW0];exact aF.bC w _ _)
 have zl:Hid (W0.heap.size=w.heap.size+1):=by rw [Hid,hW0];simp
 have Wv:Hid (∀ W,aj aB w W->Calls aA 108 #[.agg c.cells.toArray] W fun e w'=>e = .returned (ah ((b*ww:Nat):Int))/\aj aB W w'):=fun W hW=>Ba hok hcb hcw W (hT.aK hW)
 have AU:Hid (∀ W,Calls aA 109 #[ah ((b*ww:Nat):Int)] W fun e w'=>∃ R X,e = .returned (.tuple #[au R,ah 0])/\dY w' R X (ajj (b*ww) 0)/\W.heap.size<=R/\W.heap.size<=X/\aj aB W w'):=fun W=>abN (b*ww) (by have:=Nat.mul_le_mul hn.1 hn.2.2.1;omega) hn.2.2.2.2 W
 have tJ:Hid (∀ W aR aX tR tX,dY W aR aX (ajj (b*ww) 0)->iF W tR tX c (ajj b 0)->aj aB w W->Calls aA 110 #[au aR,au tR] W fun e w'=>∃ L iR iX,e = .returned (.tuple #[au L,ah 0])/\dN w' L iR iX aR tR (b*ww+1) (ajj ((b*ww+1+63)/64) 0) [0,0,0,0]/\W.heap.size<=L/\W.heap.size<=iR/\W.heap.size<=iX/\aj aB W w'):=fun W aR aX tR tX hA Wh hW =>
  aei hA Wh hcb hcw (by simp) (hT.aK hW)
 have jI:Hid (∀ W,Calls aA 111 #[ah (((b*ww:Nat):Int)+1)] W fun e w'=>∃ B X,e = .returned (.tuple #[au B,ah 0])/\jo w' B X (b*ww+1) (ajj ((b*ww+1+63)/64) 0)/\W.heap.size<=B/\W.heap.size<=X/\aj aB W w'):=fun W=>by
  have h9:=Rz (b*ww+1) (by omega) W
  rw [show (((b*ww+1:Nat):Nat):Int)=((b*ww:Nat):Int)+1 by omega] at h9
  exact h9
 have afS:=ay (Yj c b ww nc hn.2.2.2.2)
 have Wx:Hid (lu w/\jk w):=⟨hT,hS⟩
 have ahW:((b*ww:Nat):Int)<=1048576:=by omega
 have hwr:IntKind.i64.wrap (((b*ww:Nat):Int)+1)=((b*ww:Nat):Int)+1:=IntWalk.i64_in _ (by omega)
 obtain ⟨NN,hNN⟩:∃ NN,NN=b*ww:=⟨_,rfl⟩
 have Df:=ay hNN
 rw [<- hNN] at Wv AU tJ jI ahW hwr
 obtain ⟨c0,c1,c2,c3,c4,c5,c6⟩:=c
 simp only at hcb hcw hcc
 subst hcb
 subst hcw
 subst hcc
 simp only [bK.cells] at *
 clear hT hS hok hn qV hNN
 go_enter func67,ntmps67
 go_wp2_with fail
 rw [<- hW0]
 clear hW0
 refine HN.out.mono ?_
 rintro e w1 ⟨tR,tX,rfl,ht,t1,t2,hk1⟩
 have HT1:=ay ht
 have HG1:Hid (w.heap.size+1<=tR/\w.heap.size+1<=tX/\tR≠tX/\tR<w1.heap.size/\tX<w1.heap.size):=by have h9:=zl.out;exact ⟨by omega,by omega,ht.ne,ht.aH.lt,ht.jh.lt⟩
 have bI:=ay (HK.out.trans hk1)
 have HB1:=ay (hk1.aH HB.out (fun f=>f))
 have y0:=HB1.out.cell 0 rfl;have y1:=HB1.out.cell 1 rfl;have y2:=HB1.out.cell 2 rfl;have y3:=HB1.out.cell 3 rfl;have y4:=HB1.out.cell 4 rfl;have y5:=HB1.out.cell 5 rfl;have y6:=HB1.out.cell 6 rfl
 clear ht t1 t2 hk1 HN HK HB
 have afT:=ay (Wv.out _ bI.out)
 go_wp2_with fail
 refine afT.out.mono ?_
 rintro e w2 ⟨rfl,hk2⟩
 have dF:=ay (bI.out.trans hk2)
 have HT2:=ay (HT1.out.still hk2)
 have HB2:=ay (hk2.aH HB1.out (fun f=>f))
 have HS2:Hid (w1.heap.size<=w2.heap.size):=hk2.size
 clear hk2 afT Wv HT1 HB1 y0 y1 y2 y3 y4 y5 y6
 go_wp2_with fail
 refine (AU.out _).mono ?_
 rintro e w3 ⟨aR,aX,rfl,ha,a1,a2,hk3⟩
 have jF:=ay (dF.out.trans hk3)
 have HT3:=ay (HT2.out.still hk3)
 have HB3:=ay (hk3.aH HB2.out (fun f=>f))
 have RN:=ay ha
 have Jg:Hid (w2.heap.size<=aR/\w2.heap.size<=aX/\aR≠aX/\aR<w3.heap.size/\aX<w3.heap.size):=⟨a1,a2,ha.ne,by obtain ⟨_,_,h9⟩:=ha.aH;exact h9.lt,ha.pU.lt⟩
 clear hk3 ha a1 a2 HT2 HB2
 have afU:=ay (tJ.out _ _ _ _ _ RN.out HT3.out jF.out)
 go_wp2_with fail
 refine afU.out.mono ?_
 rintro e w4 ⟨L,iR,iX,rfl,hl,l1,l2,l3,hk4⟩
 have nV:=ay (jF.out.trans hk4)
 have HT4:=ay (HT3.out.still hk4)
 have HB4:=ay (hk4.aH HB3.out (fun f=>f))
 have HA4:=ay (RN.out.still hk4)
 have HL4:=ay hl
 have HG4:Hid (w3.heap.size<=L/\w3.heap.size<=iR/\w3.heap.size<=iX/\L≠iR/\L≠iX/\iR≠iX/\L<w4.heap.size/\iR<w4.heap.size/\iX<w4.heap.size):=⟨l1,l2,l3,hl.ne.1,hl.ne.2,hl.set.ne,hl.lt,by obtain ⟨_,h9⟩:=hl.set.aH;exact h9.lt,by obtain ⟨_,h9,_⟩:=hl.set.pU;exact h9.lt⟩
 clear hk4 hl l1 l2 l3 HT3 HB3 RN afU tJ
 go_wp2_with fail
 refine (jI.out _).mono ?_
 rintro e w5 ⟨bR,bX,rfl,hs,s1,s2,hk5⟩
 have HK5:=ay (nV.out.trans hk5)
 have HT5:=ay (HT4.out.still hk5)
 have HB5:=ay (hk5.aH HB4.out (fun f=>f))
 have HA5:=ay (HA4.out.still hk5)
 have HL5:=ay (HL4.out.still hk5)
 have DN:=ay hs
 have HG5:Hid (w4.heap.size<=bR/\w4.heap.size<=bX/\bR≠bX/\bR<w5.heap.size/\bX<w5.heap.size):=⟨s1,s2,hs.ne,by obtain ⟨_,h9⟩:=hs.aH;exact h9.lt,by obtain ⟨_,h9,_⟩:=hs.pU;exact h9.lt⟩
 clear hk5 hs s1 s2 HT4 HB4 HA4 HL4
 have Hr:Hid (∀ W,aj aB w5 W->Calls aA 88 #[au bR] W fun e w'=>∃ B' X',e = .returned (au B')/\jo w' B' X' (NN+1) (ajj ((NN+1+63)/64) 0)/\W.heap.size<=B'/\W.heap.size<=X'/\aj aB W w'):=fun W hW=>OI (DN.out.still hW) (by omega)
 have iH:Hid (∀ cR cX cl d0 W,aj aB w5 W->jo W cR cX (NN+1) (ajj ((NN+1+63)/64) 0)->aF W cl (aS (ajj nc 0)) 3->aF W d0 [au aR,au tR,au L,au bR,au cR,.slice (some ⟨cl,0,none⟩) nc nc] 101 ->
  w5.heap.size<=cR->w5.heap.size<=cX->w5.heap.size<=cl->w5.heap.size<=d0->cl≠cX ->
  aI W (FP [d0,aR,aX,tR,tX,L,iR,iX,bR,bX,cR,cX,cl]) (HS.bC ⟨b,ww,c2,c3,nc,c5,c6⟩ b ww nc)/\∀ i,i<13->w.heap.size<=FP [d0,aR,aX,tR,tX,L,iR,iX,bR,bX,cR,cX,cl] i):=by
  intro cR cX cl d0 W hW hc hcl hd g1 g2 g3 g4 g5
  have q1:=HG1.out;have q2:=HS2.out;have q3:=Jg.out;have q4:=HG4.out;have q5:=HG5.out
  have q6:=hc.ne
  have q7:d0≠cR:=fun e=>by obtain ⟨_,h9⟩:=hc.aH;rw [e] at hd;exact absurd (hd.jL h9).2 (by decide)
  have q8:d0≠cX:=fun e=>by obtain ⟨_,h9,_⟩:=hc.pU;rw [e] at hd;exact absurd (hd.jL h9).2 (by decide)
  have q9:d0≠cl:=fun e=>by rw [e] at hd;exact absurd (hd.jL hcl).2 (by decide)
  have q10:cl≠cR:=fun e=>by obtain ⟨_,h9⟩:=hc.aH;rw [e] at hcl;exact absurd (hcl.jL h9).2 (by decide)
  have hge:∀ i,i<13->w.heap.size+1<=FP [d0,aR,aX,tR,tX,L,iR,iX,bR,bX,cR,cX,cl] i:=by
   intro i hi
   match i,hi with
   | 0,_=>show _<=d0;omega
   | 1,_=>show _<=aR;omega
   | 2,_=>show _<=aX;omega
   | 3,_=>show _<=tR;omega
   | 4,_=>show _<=tX;omega
   | 5,_=>show _<=L;omega
   | 6,_=>show _<=iR;omega
   | 7,_=>show _<=iX;omega
   | 8,_=>show _<=bR;omega
   | 9,_=>show _<=bX;omega
   | 10,_=>show _<=cR;omega
   | 11,_=>show _<=cX;omega
   | 12,_=>show _<=cl;omega
  have hkW:=HK5.out.trans hW
  have gl:3<w.heap.size/\4<w.heap.size/\2<w.heap.size :=
   ⟨akl _ _ (Wx.out.1.xg 0 1 rfl),akl _ _ (Wx.out.1.kind 0 [] rfl),akl _ _ (Wx.out.2 0 2 rfl)⟩
  refine ⟨⟨aao rfl ?_,?_,?_,HT5.out.still hW,⟨ajj ((NN+1+63)/64) 0,?_,?_⟩,?_,?_,hcl,rfl,rfl,?_,afS.out,Wx.out.1.aK hkW,Wx.out.2.aK hkW,fun i hi=>?_⟩,fun i hi=>by have:=hge i hi;omega⟩
  ·simp only [List.nodup_cons,List.mem_cons,List.not_mem_nil,or_false,not_or,akQ,and_true,not_false_eq_true]
   clear hd hcl hc hW hkW hge gl
   refine ⟨⟨?_,?_,?_,?_,?_,?_,?_,?_,?_,?_,?_,?_⟩,⟨?_,?_,?_,?_,?_,?_,?_,?_,?_,?_,?_⟩,⟨?_,?_,?_,?_,?_,?_,?_,?_,?_,?_⟩,⟨?_,?_,?_,?_,?_,?_,?_,?_,?_⟩,⟨?_,?_,?_,?_,?_,?_,?_,?_⟩,⟨?_,?_,?_,?_,?_,?_,?_⟩,⟨?_,?_,?_,?_,?_,?_⟩,⟨?_,?_,?_,?_,?_⟩,⟨?_,?_,?_,?_⟩,⟨?_,?_,?_⟩,⟨?_,?_⟩,?_⟩<;>omega
  ·show aF W d0 _ _
   simpa [HS.bC,FP] using hd
  ·show dY W aR aX (ajj (b*ww) 0)
   rw [<- Df.out];exact HA5.out.still hW
  ·show dN W L iR iX aR tR (b*ww+1) _ [0,0,0,0]
   rw [<- Df.out];exact HL5.out.still hW
  ·intro m
   show oU (b*ww+1) _ _=false
   unfold oU
   rw [V8];simp
  ·show qP W bR bX (b*ww+1) (fun _=>false)
   rw [<- Df.out];exact SS (DN.out.still hW)
  ·show qP W cR cX (b*ww+1) (fun _=>false)
   rw [<- Df.out];exact SS hc
  ·show (nc:Int)=((ajj nc 0).length:Int)
   simp
  ·have h9:=hge i hi
   exact ⟨by omega,by omega,by omega⟩
 have FQ:Hid (∀ W,aj aB w5 W->W.cell? ⟨w.heap.size,4,none⟩=some (ah (nc:Int))):=fun W hW=>hW.still (HB5.out.cell 4 rfl)
 have y4:=FQ.out w5 (aj.refl _ _)
 have HKW:=ay HK5.out
 clear HK5 HT5 HB5 HA5 HL5 DN HG5 HG4 Jg HS2 HG1 afS Wx nV jF dF bI jI AU Df zl
 go_wp2_with fail
 go_region_held3 (fun w'=>w'.cell? ⟨w.heap.size,4,none⟩=some (ah (nc:Int)))
  (first | exact FQ.out _ (aj.refl _ _) | exact FQ.out _ (aj.refl _ _).drew | exact FQ.out _ ((aj.refl _ _).alloc _) | exact FQ.out _ ((aj.refl _ _).alloc _).drew | exact FQ.out _ ((aj.refl _ _).drew.alloc _) | exact FQ.out _ Gu.out | exact FQ.out _ (Gu.out.alloc _) | exact FQ.out _ ((Gu.out.alloc _).alloc _) | fail "nR")
  ((go_at_call 88
    refine (Hr.out _ (by first | exact (aj.refl _ _).drew | exact ((aj.refl _ _).alloc _).drew | exact (aj.refl _ _).drew.alloc _ | fail "qg")).mono ?_
    rintro e w6 ⟨cR,cX,rfl,hc,g1,g2,hk6⟩
    have HC6:=ay hc
    have HG6:=ay (And.intro g1 g2)
    have ahX:=ay hk6
    have Gu : Hid (aj aB w5 w6) := by first | exact (aj.refl _ _).drew.trans hk6 | exact ((aj.refl _ _).alloc _).drew.trans hk6 | exact ((aj.refl _ _).drew.alloc _).trans hk6 | fail "aiE"
    clear hc g1 g2 hk6))
 all_goals
  go_wp2_with fail
  go_ret2
 ·
  have hz:fV (ah 0) nc=aS (ajj nc 0):=by simp [fV,aS]
  have hs5:=Gu.out.size
  have k7:aj aB w6 ((w6.alloc (.cells (fV (ah 0) nc).toArray 3)).alloc (.cells #[au aR,au tR,au L,au bR,au cR,.slice (some ⟨w6.heap.size,0,none⟩) nc nc] 101)):=((aj.refl _ _).alloc _).alloc _
  have hcl:=(aF.bC w6 (fV (ah 0) nc) 3).alloc (.cells #[au aR,au tR,au L,au bR,au cR,.slice (some ⟨w6.heap.size,0,none⟩) nc nc] 101)
  have hd:=aF.bC (w6.alloc (.cells (fV (ah 0) nc).toArray 3)) [au aR,au tR,au L,au bR,au cR,.slice (some ⟨w6.heap.size,0,none⟩) nc nc] 101
  rw [World.size_alloc] at hd
  have hlt:cX<w6.heap.size:=by obtain ⟨_,h9,_⟩:=HC6.out.pU;exact h9.lt
  have g6:=HG6.out
  have SV:=iH.out cR cX w6.heap.size (w6.heap.size+1) _ (Gu.out.trans k7) (HC6.out.still k7) (by rw [<- hz];exact hcl) hd (by first|omega|exact g6.1|(have:=g6.1;simp at this;omega)) (by first|omega|exact g6.2|(have:=g6.2;simp at this;omega)) hs5 (by omega) (by omega)
  exact ⟨_,rfl,SV.1,SV.2,HKW.out.trans (Gu.out.trans k7)⟩
 ·
  have hz:fV (ah 0) nc=aS (ajj nc 0):=by simp [fV,aS]
  have hs5:=Gu.out.size
  have k7:aj aB w6 (w6.alloc (.cells #[au aR,au tR,au L,au bR,au cR,.slice (some ⟨w5.heap.size,0,none⟩) nc nc] 101)):=(aj.refl _ _).alloc _
  have hcl0:=(ahX.out.aH ((aF.bC w5 (fV (ah 0) nc) 3).drew) (fun f=>f))
  have hcl:=hcl0.alloc (.cells #[au aR,au tR,au L,au bR,au cR,.slice (some ⟨w5.heap.size,0,none⟩) nc nc] 101)
  have hd:=aF.bC w6 [au aR,au tR,au L,au bR,au cR,.slice (some ⟨w5.heap.size,0,none⟩) nc nc] 101
  have g6:=HG6.out
  have g61:w5.heap.size+1<=cR:=by have:=g6.1;simpa using this
  have g62:w5.heap.size+1<=cX:=by have:=g6.2;simpa using this
  have SV:=iH.out cR cX w5.heap.size w6.heap.size _ (Gu.out.trans k7) (HC6.out.still k7) (by rw [<- hz];exact hcl) hd (by omega) (by omega) (aje _) hs5 (by omega)
  exact ⟨_,rfl,SV.1,SV.2,HKW.out.trans (Gu.out.trans k7)⟩
end
section
def Sh.bC (c:bK) (b ww nc n:Nat):Sh:=⟨HS.bC c b ww nc,Bd.bC (n:Int),⟨[[],[],[],[]],0⟩,false,ajj n []⟩
def MS.bC (c:bK) (id:Nat) (prog:List jy):MS:=⟨id,c,ajj c.r.toNat 0,[],0,0,0,prog,[],.nil,0,0,0,0,false⟩
theorem AL.first {s:Sh} {c:bK} (id:Nat) (prog:List jy) (hq:rV s) (ho:s.Q.dS=0) (hr:0<=c.r):AL 0 s (MS.bC c id prog) :=
 ⟨(by show 0<2;decide),(by show 0<2;decide),by omega,by simp [MS.bC],hq,aje _,by simp only [MS.bC,List.length_replicate];omega,trivial⟩
def mZ (m:MS):Bool:=jD m.next&&decide (m.dG.length=m.prog.length)
section
variable {H:HS}
theorem NZ (k:Nat):(H.iT k).2.2.ww=H.ww/\(H.iT k).2.2.c=H.c:=by unfold HS.iT;split<;>exact ⟨rfl,rfl⟩
theorem SX (a:Nat):(H.jA a).ww=H.ww/\(H.jA a).c=H.c:=by
 unfold HS.jA
 split
 ·exact ⟨rfl,rfl⟩
 ·split<;>exact ⟨rfl,rfl⟩
theorem SY (a:Nat) (f:Int):(H.kR a f).ww=H.ww/\(H.kR a f).c=H.c:=by
 unfold HS.kR
 split
 ·exact ⟨rfl,rfl⟩
 ·split<;>exact ⟨rfl,rfl⟩
theorem Wy (a c:Nat):(H.oV a c).ww=H.ww/\(H.oV a c).c=H.c:=by unfold HS.oV;split<;>exact ⟨rfl,rfl⟩
theorem N7 (a:Nat):(H.jH a).ww=H.ww/\(H.jH a).c=H.c:=by
 unfold HS.jH
 split
 ·exact SX (H:=H.rZ a) a
 ·exact ⟨rfl,rfl⟩
theorem FT (a:Nat) (f:Int) (v:Nat):(H.jJ a f v).ww=H.ww/\(H.jJ a f v).c=H.c:=by unfold HS.jJ;split<;>exact ⟨rfl,rfl⟩
theorem aap (i:Int) (v:Nat):(H.vU i v).ww=H.ww/\(H.vU i v).c=H.c:=by unfold HS.vU;split<;>exact ⟨rfl,rfl⟩
theorem J4 (a c:Nat):(H.eF a c).ww=H.ww/\(H.eF a c).c=H.c:=by unfold HS.eF;split<;>exact ⟨rfl,rfl⟩
theorem Pn (k:Nat):(H.gq k).2.2.ww=H.ww/\(H.gq k).2.2.c=H.c:=by unfold HS.gq;split<;>exact ⟨rfl,rfl⟩
theorem ahv (rd:RD):(rd.QM H).ww=H.ww/\(rd.QM H).c=H.c:=by
 cases rd with
 | field b f v=>exact FT b f v
 | cell i v=>exact aap i v
end
def cost (W:Nat):MD->Nat
 | .kU _=>W+25
 | .field _ _ t=>1+cost W t
 | .load _ _=>1
 | .get _=>1
 | .last _=>1
 | .alloc _ _=>W+24
 | .assign _ _=>W+23
 | .xJ _ all=>all.length+17
 | .xK _ _=>21
 | .wP _ _=>20
 | .fill _ _=>18
 | .zero _ _ i=>16 - i
 | _=>0
section
variable {s:Sh} {m:MS}
def todo (W:Nat) (m:MS):Nat:=if jD m.next then (m.prog.length - m.dG.length)*(W+27) else (m.prog.length - m.dG.length - 1)*(W+27)+cost W m.next
theorem S9 {d:MD} (h:jD d=true):d = .nil:=by cases d<;>first|rfl|cases h
end
end
section
attribute [local go_sem] Oper.semAt_some
open Go.RowKit
def pG (o:Ow) (w:World) (G:fU) (g:MG) (s:Sh) (m:MS):Ending->World->Prop:=fun e w'=>∃ o',e = .returned (.tuple #[vK (dV s m).2.2,sO (dV s m).2.2])/\bZ w o o'/\qw o' w' G g (dV s m).1 (dV s m).2.1/\aj (In o (eH m.id)) w w'
section
variable {o o':Ow} {w w':World} {G:fU} {g:MG} {s:Sh} {m:MS} {nv:Value} {ev:Option Ev}
theorem bM.c19 (h:bM o w G g s m ev nv):w.cell? ⟨g.M,19,none⟩=some (ah (m.aU:Int)):=h.cell 19 _ (fun _ _=>rfl)
theorem bM.c22 (h:bM o w G g s m ev nv):w.cell? ⟨g.M,22,none⟩=some (.bool m.mg):=h.cell 22 _ (fun _ _=>rfl)
theorem bM.Tc (h:bM o w G g s m ev nv):∀ nY,bM o (w.setCell ⟨g.M,17,none⟩ nY) G g s m ev nY/\aj (In o [20+m.id]) w (w.setCell ⟨g.M,17,none⟩ nY):=fun nY=>h.put 17 nY m ev nY (fun _pv _rv=>rfl) ⟨rfl,rfl,rfl,rfl,rfl,rfl⟩
theorem bM.behind (h:bM o w G g s m ev nv):(∃ a b c d e f t,∀ x,(w.alloc x).cell? ⟨g.M,23,none⟩=some a/\(w.alloc x).cell? ⟨g.M,24,none⟩=some b/\(w.alloc x).cell? ⟨g.M,25,none⟩=some c/\(w.alloc x).cell? ⟨g.M,26,none⟩=some d/\(w.alloc x).cell? ⟨g.M,27,none⟩=some e/\(w.alloc x).cell? ⟨g.M,28,none⟩=some f/\(w.alloc x).cell? ⟨g.M,29,none⟩=some t) /\
 (∀ x,(w.alloc x).cell? ⟨g.M,19,none⟩=some (ah (m.aU:Int)))/\(∀ x,(w.alloc x).cell? ⟨g.M,17,none⟩=some nv)/\(∀ x i,(w.alloc x).frozen? ⟨g.M,i,none⟩=false):=by
 obtain ⟨a,b,c,d,e,f,t,e0,e1,e2,e3,e4,e5,e6⟩:=h.zo
 have k:∀ x,aj aB w (w.alloc x):=fun x=>(aj.refl _ _).alloc x
 exact ⟨⟨a,b,c,d,e,f,t,fun x=>⟨(k x).still e0,(k x).still e1,(k x).still e2,(k x).still e3,(k x).still e4,(k x).still e5,(k x).still e6⟩⟩,fun x=>(h.still (k x)).c19,fun x=>(h.still (k x)).c17,fun x i=>(h.still (k x)).free i⟩
theorem Yk (h:bM o w G g s m ev nv) (hn:oz o w (G.D 0) (g.Nt,g.M) (30+m.id) m.next nv) (hnil:jD m.next=true) (hsp:m.aU<=1000000000):Calls aA 24 #[au g.M] w (pG o w G g s m):=by
 have i8:m.id<8:=ajf h.mF h.box8
 obtain ⟨o1,W2,hW2,hext,hR,h2,n2,k2,hB⟩:=h.pick0 hn
 obtain ⟨⟨x0,x1,x2,x3,x4,x5,x6,hx⟩,hsp0,hnx0,hfr0⟩:=h.behind
 have Po:=S9 hnil
 rw [Po] at hn n2
 obtain rfl:nv = .nilFunc:=hn
 have HP:Hid (∀ W3,W3=W2.setCell ⟨g.M,19,none⟩ (ah 1)->Calls aA 48 #[au g.M] W3 fun e w4=>∃ v,e = .returned v/\(v = .nilFunc\/∃ (fn:Nat) (caps:Array Value),v = .func (.func fn) #[] caps)/\w4.frozen? ⟨g.M,17,none⟩=false/\w4.cell? ⟨g.M,17,none⟩=some .nilFunc /\
  ∀ W5,W5=w4.setCell ⟨g.M,17,none⟩ v->(W5.cell? ⟨g.M,23,none⟩=some (ah 0)/\W5.cell? ⟨g.M,24,none⟩=some (ah 0)/\W5.cell? ⟨g.M,25,none⟩=some (ah 0)/\W5.cell? ⟨g.M,26,none⟩=some (ah 0)/\W5.cell? ⟨g.M,27,none⟩=some (ah 0)/\W5.cell? ⟨g.M,28,none⟩=some (ah 0)/\W5.cell? ⟨g.M,29,none⟩=some (.bool false)) /\
   aF W5 w.heap.size zero6.toList 37/\Hid (∀ w6,aj (only w.heap.size) W5 w6->pG o w G g s m (.returned (.tuple #[.agg zero6,.bool false])) w6)):=fun W3 hW3=>by
  have h3:bM o1 W3 G g s { m with aU:=1 } none .nilFunc/\aj (In o1 [20+m.id]) W2 W3:=by
   rw [hW3];exact h2.put 19 (ah 1) { m with aU:=1 } none .nilFunc (fun pv rv=>rfl) ⟨rfl,rfl,rfl,rfl,rfl,rfl⟩
  refine (Yi h3.1).mono ?_
  rintro e w4 ⟨v,rfl,h4,c4,k4⟩
  refine ⟨v,rfl,c4.form,h4.free 17,h4.c17,fun W5 nI=>?_⟩
  obtain ⟨h5,k5⟩:=h4.Tc v
  rw [<- nI] at h5 k5
  have k25:aj (In o1 [20+m.id]) W2 W5:=(h3.2.trans k4).trans k5
  have fD:aF W5 w.heap.size zero6.toList 37:=hB.bg k25 hR (by simp<;>omega)
  have c5:fE o1 W5 g.Nt g.M (fG s { m with aU:=1 }) v:=c4.bg k5 (by simp<;>omega)
  refine ⟨⟨h5.cell 23 _ (fun _ _=>rfl),h5.cell 24 _ (fun _ _=>rfl),h5.cell 25 _ (fun _ _=>rfl),h5.cell 26 _ (fun _ _=>rfl),h5.cell 27 _ (fun _ _=>rfl),h5.cell 28 _ (fun _ _=>rfl),h5.cell 29 _ (fun _ _=>rfl)⟩,fD,fun w6 k6=>?_⟩
  obtain ⟨h6,n6⟩:=h5.I4 (d:=fG s m) (v:=v) (oz.of (g:=(g.Nt,g.M)) c5) k6 hR
  have ep:dV s m=(s,{ m with aU:=1,mg:=s.B.bF m.id,next:=fG s m },none):=by
   unfold dV
   rw [aZ hnil]
  unfold pG
  rw [ep]
  refine ⟨o1,rfl,hext,⟨none,v,h6.FI (fG s m),n6⟩,?_⟩
  have k26:aj (fun b=>In o1 [20+m.id] b\/b=w.heap.size) W2 w6:=(k25.mono (fun _ _ h=>Or.inl h)).trans (k6.mono (fun b _ h=>Or.inr h))
  refine k2.kF k26 (fun i hi hin=>?_)
  rcases hin with hin|hin
  ·unfold In at hin ⊢
   rw [hext i hi] at hin
   simp at hin
   simp [eH,hin]
  ·omega
 have Td:(m.aU:Int)<=1000000000:=by omega
 have Me:(0:Int)<=(m.aU:Int):=by omega
 have qZ:=hW2
 unfold CZ at qZ
 have HW2:=ay qZ
 have hnq:=ES
 have f17:=fun x=>hfr0 x 17
 have f19:=fun x=>hfr0 x 19
 have f23:=fun x=>hfr0 x 23
 have f24:=fun x=>hfr0 x 24
 have f25:=fun x=>hfr0 x 25
 have f26:=fun x=>hfr0 x 26
 have f27:=fun x=>hfr0 x 27
 have f28:=fun x=>hfr0 x 28
 have f29:=fun x=>hfr0 x 29
 have g23:=fun x=>(hx x).1
 have g24:=fun x=>(hx x).2.1
 have g25:=fun x=>(hx x).2.2.1
 have g26:=fun x=>(hx x).2.2.2.1
 have g27:=fun x=>(hx x).2.2.2.2.1
 have g28:=fun x=>(hx x).2.2.2.2.2.1
 have g29:=fun x=>(hx x).2.2.2.2.2.2
 generalize pG o w G g s m=PO at *
 generalize m.aU=sp at *
 clear h h2 n2 k2 hext hW2 qZ hx hfr0 hB Po hnil hsp
 go_enter func24,ntmps24
 go_wp2_with fail
 rw [<- HW2.out]
 refine (HP.out _ rfl).mono ?_
 rintro e w4 ⟨v,rfl,hform,e17,d17,hs⟩
 obtain ⟨W5,nI⟩:∃ W5,W5=w4.setCell ⟨g.M,17,none⟩ v:=⟨_,rfl⟩
 obtain ⟨⟨y0,y1,y2,y3,y4,y5,y6⟩,fD,hend⟩:=hs W5 nI
 obtain ⟨W6,uZ⟩:∃ W6,W6=W5.drew:=⟨_,rfl⟩
 have k56:aj aB W5 W6:=by rw [uZ];exact (aj.refl aB W5).drew
 have iO:=k56.aH fD (fun f=>f)
 have iH:=ay hend
 have Tf:=ay nI
 have HB6:=ay iO
 have zf0:=fD.free 0
 have zf1:=fD.free 1
 have zf2:=fD.free 2
 have zf3:=fD.free 3
 have zf4:=fD.free 4
 have zf5:=fD.free 5
 have z0:W5.cell? ⟨w.heap.size,0,none⟩=some (ah 0):=fD.cell 0 rfl
 have z1:W5.cell? ⟨w.heap.size,1,none⟩=some (ah 0):=fD.cell 1 rfl
 have z2:W5.cell? ⟨w.heap.size,2,none⟩=some (ah 0):=fD.cell 2 rfl
 have z3:W5.cell? ⟨w.heap.size,3,none⟩=some (ah 0):=fD.cell 3 rfl
 have z4:W5.cell? ⟨w.heap.size,4,none⟩=some (ah 0):=fD.cell 4 rfl
 have z5:W5.cell? ⟨w.heap.size,5,none⟩=some (ah 0):=fD.cell 5 rfl
 have Ht:=k56.still y0;have x1':=k56.still y1;have x2':=k56.still y2;have x3':=k56.still y3;have Hu:=k56.still y4;have Hw:=k56.still y5;have Hy:=k56.still y6
 rw [uZ] at Ht x1' x2' x3' Hu Hw Hy
 have yf0:=iO.free 0
 have yf1:=iO.free 1
 have yf2:=iO.free 2
 have yf3:=iO.free 3
 have yf4:=iO.free 4
 have yf5:=iO.free 5
 have r0:W6.cell? ⟨w.heap.size,0,none⟩=some (ah 0):=iO.cell 0 rfl
 have r1:W6.cell? ⟨w.heap.size,1,none⟩=some (ah 0):=iO.cell 1 rfl
 have r2:W6.cell? ⟨w.heap.size,2,none⟩=some (ah 0):=iO.cell 2 rfl
 have r3:W6.cell? ⟨w.heap.size,3,none⟩=some (ah 0):=iO.cell 3 rfl
 have r4:W6.cell? ⟨w.heap.size,4,none⟩=some (ah 0):=iO.cell 4 rfl
 have r5:W6.cell? ⟨w.heap.size,5,none⟩=some (ah 0):=iO.cell 5 rfl
 rw [uZ] at r0 r1 r2 r3 r4 r5 yf0 yf1 yf2 yf3 yf4 yf5
 clear f17 f19 f23 f24 f25 f26 f27 f28 f29 g23 g24 g25 g26 g27 g28 g29 hsp0 hnx0 hend hs nI fD iO HB6 Td Me HP k56 uZ
 rcases hform with rfl|⟨fn,caps,rfl⟩
 all_goals
  go_wp2_with fail
  rw [<- Tf.out]
  clear e17 d17
  go_region
  go_wp2_with fail
  refine bodyPost_ret (v := .tuple #[.agg zero6,.bool false]) (by simp [results,Tryz.f24,go_sem,z0,z1,z2,z3,z4,z5]) rfl ?_
  exact iH.out _ ((((((((aj.refl (only w.heap.size) _).put _ _).put _ _).put _ _).put _ _).put _ _).put _ _).drew)
end
def kZ (o:Ow) (w:World) (G:fU) (q:CG) (s:Sh) (c:CS):Prop:=∃ ev nv,bU o w G q s c ev nv/\jW o w (G.D 0) q.C c.aP c.next nv
def yO (o:Ow) (w:World) (G:fU) (q:CG) (s:Sh) (c:CS):Ending->World->Prop:=fun e w'=>∃ o',e = .returned (.tuple #[vK (dX s c).ev,sO (dX s c).ev])/\bZ w o o'/\kZ o' w' G q (dX s c).s (dX s c).c/\aj (In o dD) w w'
section
variable {o o':Ow} {w w':World} {G:fU} {q:CG} {s:Sh} {c:CS} {ev:Option Ev} {nv nv0:Value} {N:Nat}
def Di (w:World) (M:Nat):World:=((((((w.setCell ⟨M,13,none⟩ (ah 0)).setCell ⟨M,14,none⟩ (ah 0)).setCell ⟨M,15,none⟩ (ah 0)).setCell ⟨M,16,none⟩ (ah 0)).setCell ⟨M,17,none⟩ (ah 0)).setCell ⟨M,18,none⟩ (ah 0)).setCell ⟨M,19,none⟩ (.bool false)
theorem bU.Sv (h:bU o w G q s c ev nv):bU o (Di w q.C) G q s c none nv/\aj (In o [5]) w (Di w q.C):=by
 have k:aj (only q.C) w (Di w q.C):=(((((((aj.refl _ _).put _ _).put _ _).put _ _).put _ _).put _ _).put _ _).put _ _
 exact h.struct k c none nv (fun hb=>by
  have:=((((((hb.set 13 (ah 0)).set 14 (ah 0)).set 15 (ah 0)).set 16 (ah 0)).set 17 (ah 0)).set 18 (ah 0)).set 19 (.bool false)
  obtain ⟨a,b,c',d,e,f,t,he⟩:=IY ev
  unfold nJ at this ⊢
  rw [he] at this
  exact this) ⟨rfl,rfl,rfl⟩
theorem bU.pick0 (h:bU o w G q s c ev nv) {d:CD} (hn:jW o w (G.D 0) q.C c.aP d nv):∃ o1 W2,W2=Di (w.alloc (.cells zero6 37)) q.C/\bZ w o o1/\o1 w.heap.size=99 /\
 bU o1 W2 G q s c none nv/\jW o1 W2 (G.D 0) q.C c.aP d nv/\aj (In o dD) w W2/\aF W2 w.heap.size zero6.toList 37:=by
 obtain ⟨W0,hW0⟩:∃ W0,W0=w.alloc (.cells zero6 37):=⟨_,rfl⟩
 have k0:aj aB w W0:=by rw [hW0];exact (aj.refl _ _).alloc _
 have hR:aF W0 w.heap.size zero6.toList 37:=by rw [hW0];exact aF.bC w _ _
 have e0:W0.heap.size=w.heap.size+1:=by rw [hW0];simp
 obtain ⟨o1,ho1⟩:∃ o1,o1=o.put w.heap.size 99:=⟨_,rfl⟩
 have hext:bZ w o o1:=by rw [ho1];exact Ow.pF (.inl (aje _))
 have hR1:o1 w.heap.size=99:=by rw [ho1];exact Ow.qW _ _ _
 have hf1:kJ o1 W0:=by rw [ho1];exact Ow.um h.sh.iV k0.size (by omega)
 have h0:bU o1 W0 G q s c ev nv:=h.DJ k0 hext hf1
 have n0:jW o1 W0 (G.D 0) q.C c.aP d nv:=(hn.ext hext).bg (I:=[]) k0.bV rfl rfl
 obtain ⟨h1,k1⟩:=h0.Sv
 refine ⟨o1,_,by rw [hW0],hext,hR1,h1,n0.bg k1 rfl rfl,?_,hR.bg k1 hR1 rfl⟩
 refine (k0.bV (o:=o) (I:=dD)).kF k1 (fun i hi hin=>?_)
 unfold In at hin ⊢
 rw [hext i hi] at hin
 simp at hin
 simp [dD,hin]
theorem bU.I4 {R:Nat} (h:bU o w G q s c ev nv) {d:CD} {jw:Nat} {v:Value} (hn:jW o w (G.D 0) q.C jw d v) (k:aj (only R) w w') (hR:o R=99):bU o w' G q s c ev nv/\jW o w' (G.D 0) q.C jw d v:=by
 have k1:aj (In o [99]) w w':=k.xI hR rfl
 exact ⟨h.vJ k1 rfl (h.sh.bg k1 rfl h.box8) rfl,hn.bg k1 rfl rfl⟩
theorem Pq (fn:Nat) (first caps:Array Value):∀ w,(binOp .neq 88 (.func (.func fn) first caps) .nilFunc).run aA w = .ok (.bool true) w:=fun w=>by first|rfl|(simp [binOp,go_sem];done)|(simp [binOp,go_sem];rfl)
theorem bU.behind (h:bU o w G q s c ev nv):(∃ a b c d e f t,∀ x,(w.alloc x).cell? ⟨q.C,13,none⟩=some a/\(w.alloc x).cell? ⟨q.C,14,none⟩=some b/\(w.alloc x).cell? ⟨q.C,15,none⟩=some c/\(w.alloc x).cell? ⟨q.C,16,none⟩=some d/\(w.alloc x).cell? ⟨q.C,17,none⟩=some e/\(w.alloc x).cell? ⟨q.C,18,none⟩=some f/\(w.alloc x).cell? ⟨q.C,19,none⟩=some t) /\
 (∀ x,(w.alloc x).cell? ⟨q.C,7,none⟩=some (.bool c.jM))/\(∀ x,(w.alloc x).cell? ⟨q.C,10,none⟩=some nv)/\(∀ x i,(w.alloc x).frozen? ⟨q.C,i,none⟩=false):=by
 obtain ⟨a,b,c',d,e,f,t,e0,e1,e2,e3,e4,e5,e6⟩:=h.zo
 have k:∀ x,aj aB w (w.alloc x):=fun x=>(aj.refl _ _).alloc x
 exact ⟨⟨a,b,c',d,e,f,t,fun x=>⟨(k x).still e0,(k x).still e1,(k x).still e2,(k x).still e3,(k x).still e4,(k x).still e5,(k x).still e6⟩⟩,fun x=>(h.still (k x)).cell 7 _ rfl,fun x=>(h.still (k x)).cell 10 _ rfl,fun x i=>(h.still (k x)).free i⟩
theorem bU.evs3 (h:bU o w G q s c ev nv):∃ (a b c d e:Int) (t:Bool),(w.cell? ⟨q.C,13,none⟩=some (ah 0)/\w.cell? ⟨q.C,14,none⟩=some (ah a)/\w.cell? ⟨q.C,15,none⟩=some (ah b)/\w.cell? ⟨q.C,16,none⟩=some (ah c)/\w.cell? ⟨q.C,17,none⟩=some (ah d)/\w.cell? ⟨q.C,18,none⟩=some (ah e)/\w.cell? ⟨q.C,19,none⟩=some (.bool t))/\vK ev = .agg #[ah 0,ah a,ah b,ah c,ah d,ah e]/\sO ev = .bool t:=by
 cases ev with
 | none =>
   refine ⟨0,0,0,0,0,false,⟨?_,?_,?_,?_,?_,?_,?_⟩,rfl,rfl⟩
   all_goals exact h.cell _ _ rfl
 | some x =>
   refine ⟨x.qX,x.kind,x.op,x.code,x.value,true,⟨?_,?_,?_,?_,?_,?_,?_⟩,rfl,rfl⟩
   all_goals exact h.cell _ _ rfl
def yP (o:Ow) (w:World) (G:fU) (q:CG) (s:Sh) (c:CS) (W:World):Prop :=
 ∃ (a b c' d e:Int) (t:Bool),(W.cell? ⟨q.C,13,none⟩=some (ah 0)/\W.cell? ⟨q.C,14,none⟩=some (ah a)/\W.cell? ⟨q.C,15,none⟩=some (ah b)/\W.cell? ⟨q.C,16,none⟩=some (ah c')/\W.cell? ⟨q.C,17,none⟩=some (ah d)/\W.cell? ⟨q.C,18,none⟩=some (ah e)/\W.cell? ⟨q.C,19,none⟩=some (.bool t)) /\
  aF W w.heap.size zero6.toList 37/\Hid (∀ w6,aj (only w.heap.size) W w6->yO o w G q s c (.returned (.tuple #[.agg #[ah 0,ah a,ah b,ah c',ah d,ah e],.bool t])) w6)
theorem yP.of {o1:Ow} {W2 W4:World} {r:pO} (hext:bZ w o o1) (hR:o1 w.heap.size=99) (hB:aF W2 w.heap.size zero6.toList 37) (k2:aj (In o dD) w W2) (hn:QO o1 W2 G q r W4) (hp:dX s c=⟨r.s,{ r.c with next:=r.next },r.next,r.ev⟩):yP o w G q s c W4:=by
 obtain ⟨o2,v,e2,h4,n4,k4⟩:=hn
 have hlt:=hB.lt
 obtain ⟨a,b,c',d,e,t,hcs,ea,et⟩:=h4.evs3
 refine ⟨a,b,c',d,e,t,hcs,hB.bg k4 hR (by decide),fun w6 k6=>?_⟩
 have hR2:o2 w.heap.size=99:=(e2 _ hlt).trans hR
 obtain ⟨h6,n6⟩:=h4.I4 n4 k6 hR2
 unfold yO
 rw [hp,<- ea,<- et]
 refine ⟨o2,rfl,hext.trans k2.size e2,⟨r.ev,v,⟨h6.sh,h6.aH,h6.oC,h6.bD,h6.oK,h6.box8⟩,n6⟩,?_⟩
 have k46:aj (fun b=>In o1 dD b\/b=w.heap.size) W2 w6:=(k4.mono (fun _ _ h=>Or.inl h)).trans (k6.mono (fun b _ h=>Or.inr h))
 refine k2.kF k46 (fun i hi hin=>?_)
 rcases hin with hin|hin
 ·unfold In at hin ⊢
  rw [hext i hi] at hin
  exact hin
 ·omega
end
end
end Go.Proofs.YtanfphjoebobaaaGreatDoor
