/- Parts of the walk. No conditions. -/
import Derived.Test.YtobfpmijbfgmeabGreatDoorZzgr
import Derived.Test.YtobfpmijbfgmeabGreatDoorZzgs
namespace Go.Proofs.YtobfpmijbfgmeabGreatDoor
open _root_.Go.World renaming drew->abx
open _root_.List renaming drop_succ_cons->abz,drop_zero->abt,getElem?_eq_getElem->abr,getElem?_eq_some_iff->abl,take_zero->aby
open _root_.Nat renaming le_refl->abg,le_trans->abh,lt_of_lt_of_le->abj
open _root_.Go.Proofs.Tryz hiding prog
open _root_.Go.Proofs.Tryz renaming prog->ay
set_option maxRecDepth 100000
set_option maxHeartbeats 4000000
section
attribute [local go_sem] Oper.semAt_some
open Go.RowKit
section
variable {o:Ow} {w w':World} {G:eH} {g:MG} {s:Sh} {m:MS} {nv:Value} {ev:Option Ev}
theorem EX {c:Nat}:∀ l:List Nat,zh (qK c l)=true
 | []=>rfl
 | _::l=>zi (EX l)
structure EY (o:Ow) (w:World) (N M Nt b st dA:Nat) (aI:List Nat) (j:Nat) (W:World):Prop where
 aH:aj aA w W
 mb:aB W b [aF M] 31
 yA:N<=W.heap.size
 st:∃ fn caps,aB W st [.func (.func fn) #[] caps] 95/\bG o W Nt M (qK dA (aI.drop (aI.length - j))) (.func (.func fn) #[] caps)
theorem EY.own {N M Nt b st dA:Nat} {aI:List Nat} {B:Nat} (hB:w.heap.size<=B):OwnFrom B (EY o w N M Nt b st dA aI):=by
 rintro j W W' row ⟨h1,h2,hN,fn,caps,h3,h4⟩ hg hr
 refine ⟨uo (β:=Nat) hB j W W' row h1 hg hr,lN (β:=Nat) (cs:=fun _=>_) j W W' row h2 hg hr,abh hN hg.size,fn,caps,lN (β:=Nat) (cs:=fun _=>_) j W W' row h3 hg hr,?_⟩
 exact h4.iH (fun b cs T h5 h6=>⟨h5,lN (β:=Nat) (cs:=fun _=>cs) j W W' row h6 hg hr⟩)
theorem Ir (h:aQ o w G g s m ev nv):Calls ay 67 #[ak g.M,ah 3] w fun e w'=>∃ fn caps,e = .returned (.func (.func fn) #[] caps)/\bG o w' g.Nt g.M (qK m.dA m.aI) (.func (.func fn) #[] caps)/\aj aA w w':=by
 obtain ⟨W1,hW1⟩:∃ W1,W1=w.alloc (.cells #[aF g.M] 31):=⟨_,rfl⟩
 have k1:aj aA w W1:=by rw [hW1];exact (aj.refl _ _).alloc _
 have hb1:aB W1 w.heap.size [aF g.M] 31:=by rw [hW1];exact aB.aW w _ _
 have ho:o w.heap.size=0:=h.sh.fK _ (abg _)
 have HL:=au ((zk (Nt:=g.Nt) (h.sh.fK.aH k1) 3 99 #[ak w.heap.size] (by unfold qN;rw [aO (by decide),aO (by decide),aV rfl];exact ⟨[w.heap.size],rfl,_,_,rfl,ho,hb1,rfl⟩) w.heap.size ho hb1))
 have TD:Hid (∀ W,aj aA w W->W.cell? ⟨g.M,11,none⟩=some (ak g.Nt)/\W.cell? ⟨g.M,14,none⟩=some (ah (m.dA:Int))/\W.cell? ⟨g.M,9,none⟩=some (.slice (some ⟨g.X,0,none⟩) m.aI.length m.aI.length)/\aB W g.X (bg m.aI) 3/\jS o W):=fun W hW=>⟨(h.still hW).c11,(h.still hW).c14,(h.still hW).c9,(h.still hW).aI,(h.still hW).sh.fK⟩
 have hr64:=h.EP
 have HXL:Hid (g.X<w.heap.size):=h.aI.lt
 have HW1:=au hW1
 have hmf:=oH
 have aZ:=au k1
 have HB1:=au hb1
 generalize m.dA=mw at *
 generalize m.aI=aI at *
 clear h hW1 k1 hb1 ho
 refine (callsIn_wide (n:=9)).1 ?_
 refine callsIn_of_wp_marks func67 rfl trivial ?_ rfl
 refine wpIn_wide.2 ?_
 simp only [ntmps67,List.size_toArray,List.length_cons,List.length_nil,Nat.reduceAdd,Nat.reduceSub,Array.replicate_succ,Array.replicate_zero,List.push_toArray,List.append_toArray,List.nil_append,List.cons_append]
 go_wp2_with fail
 rw [<- HW1.out]
 refine HL.out.mono ?_
 rintro e w2 ⟨fn,caps,rfl,h2,k2⟩
 obtain ⟨W3,hW3⟩:∃ W3,W3=w2.alloc (.cells #[.func (.func fn) #[] caps] 95):=⟨_,rfl⟩
 have k3:aj aA w2 W3:=by rw [hW3];exact (aj.refl _ _).alloc _
 have hst:aB W3 w2.heap.size [.func (.func fn) #[] caps] 95:=by rw [hW3];exact aB.aW w2 _ _
 have e3:W3.heap.size=w2.heap.size+1:=by rw [hW3];simp
 have kw2:aj aA w w2:=aZ.out.trans k2
 have kw3:aj aA w W3:=kw2.trans k3
 obtain ⟨f11,f14,f9,fX,fF⟩:=TD.out W3 kw3
 have fb:=(k2.trans k3).aC HB1.out (fun f=>f)
 have cb:W3.cell? ⟨w.heap.size,0,none⟩=some (ak g.M):=fb.cell 0 rfl
 have cbx:∀ x,(w2.alloc x).cell? ⟨w.heap.size,0,none⟩=some (ak g.M):=fun x=>((k2.aC HB1.out (fun f=>f)).alloc x).cell 0 rfl
 have f9x:∀ x,(w2.alloc x).cell? ⟨g.M,9,none⟩=some (.slice (some ⟨g.X,0,none⟩) aI.length aI.length):=fun x=>(TD.out _ (kw2.trans ((aj.refl _ _).alloc x))).2.2.1
 obtain ⟨o2,ho2⟩:∃ o2,o2=o.put w2.heap.size 99:=⟨_,rfl⟩
 have hext:dL w2 o o2:=by rw [ho2];exact Ow.pq (.inl (abg _))
 have hst2:o2 w2.heap.size=99:=by rw [ho2];exact Ow.rG _ _ _
 have hfut2:jS o2 W3:=by rw [ho2];exact Ow.uh fF (abg _) (by omega)
 have YZ:Hid (∀ W d v,bG o2 W g.Nt g.M d v->bG o W g.Nt g.M d v):=fun W d v hd=>hd.iH (fun b cs T h5 h6=>⟨by rw [ho2] at h5;unfold Ow.put at h5;split at h5<;>first|exact h5|omega,h6⟩)
 obtain ⟨W4,fC⟩:∃ W4,W4=W3.alloc (.cells #[.slice (some ⟨g.X,0,none⟩) aI.length aI.length] 35):=⟨_,rfl⟩
 have k4:aj aA W3 W4:=by rw [fC];exact (aj.refl _ _).alloc _
 have hbx:aB W4 W3.heap.size [.slice (some ⟨g.X,0,none⟩) aI.length aI.length] 35:=by rw [fC];exact aB.aW W3 _ _
 have e4:W4.heap.size=W3.heap.size+1:=by rw [fC];simp
 have MN:Hid (Gj Fence.wide 8 ay 120 #[ak W3.heap.size] (tY aI) DR (zU W3.heap.size g.X) W4):=TA aI W3.heap.size g.X hr64 8 W4 hbx (k4.aC fX (fun f=>f))
 have HI0:Hid (EY o2 w W4.heap.size g.M g.Nt w.heap.size w2.heap.size mw aI 0 W4):=⟨kw3.trans k4,k4.aC fb (fun f=>f),abg _,fn,caps,k4.aC hst (fun f=>f),by
  rw [Nat.sub_zero,List.drop_length]
  exact (((bG.ext hext h2).still k3).still k4)⟩
 have Ep:Hid (∀ i,zU W3.heap.size g.X i->i<W4.heap.size/\i≠w2.heap.size):=by
  have h5:=kw2.size
  rintro i (rfl|rfl)
  ·exact ⟨by omega,by omega⟩
  ·have:=HXL.out;exact ⟨by omega,by omega⟩
 have vG:Hid (w.heap.size<w2.heap.size/\w2.heap.size<W4.heap.size):=by
  have h5:=k2.size
  have h6:W1.heap.size=w.heap.size+1:=by rw [HW1.out];simp
  exact ⟨by omega,by omega⟩
 have HF2:Hid (∀ W,W3.heap.size<=W.heap.size->jS o2 W):=fun W hW=>hfut2.later hW
 have aaB:=au hst2
 have HW3:=au hW3
 have Aq:=au fC
 have U3:=au e4
 clear h2 k2 k3 hst e3 kw2 kw3 f11 f14 fX fF fb ho2 hext hst2 hfut2 k4 hbx e4 hW3 fC HL aZ HB1
 go_wp2_with fail
 rw [<- HW3.out]
 refine (QA _ _ _ _).mono ?_
 rintro e w4 ⟨rfl,hw4⟩
 rw [<- Aq.out] at hw4
 subst hw4
 clear cb f9 cbx f9x
 go_wp2_with fail
 refine wpIn_wide (n:=9) |>.1 ?_
 refine KR rfl (by decide) (gf:=120) (lb:=#[ak W3.heap.size]) rfl trivial (fun args w=>by simp [callFunc,func120,go_sem];rfl) (all:=tY aI) (Enc:=DR) (G:=zU W3.heap.size g.X)
  MN.out ?hG ?hps
  (fun j W=>EY o2 w w4.heap.size g.M g.Nt w.heap.size w2.heap.size mw aI j W)
  (fun _ _ _=>False)
  ?hI ?hIx ?h0 ?round ?done ?stop
 case hI=>exact EY.own (by have:=vG.out;omega)
 case hIx=>exact fun c s W W' row h hg hr=>h
 case h0=>exact HI0.out
 case hG=>exact fun i hi=>(Ep.out i hi).1
 case hps =>
  rintro W x args h
  rw [h];rfl
 case stop=>exact fun D c k W hD hk h=>h.elim
 case round =>
  rintro l j x args W hx henc hI
  have hj:j<aI.length:=by
   have h:=(abl.1 hx).1
   rwa [zl] at h
  rw [Iq hj] at hx
  injection hx with hx
  subst hx
  obtain ⟨x,hx⟩:∃ x,x=aI.getD (aI.length - 1 - j) 0:=⟨_,rfl⟩
  obtain ⟨y,hy⟩:∃ y:Nat,y=aI.length - 1 - j:=⟨_,rfl⟩
  obtain rfl:args=#[ah (y:Int),ah (x:Int)]:=by rw [hx,hy];exact henc
  have HX:=au hx
  clear hx hy henc
  have HI:=au hI
  clear hI
  gi_wp2_with fail
  refine ⟨fun W=>EY o2 w w4.heap.size g.M g.Nt w.heap.size w2.heap.size mw aI j W,KeepsFrom.refl _ _,iJ.refl _ _,HI.out,(fun _ W' W'' row h hg hr=>EY.own (by have:=vG.out;omega) j W' W'' row h hg hr),?_⟩
  clear HI
  rintro W2 hI
  have Ac:Hid (w4.heap.size<=W2.heap.size):=hI.yA
  obtain ⟨q11,q14,-,-,-⟩:=TD.out W2 hI.aH
  have qb:W2.cell? ⟨w.heap.size,0,none⟩=some (ak g.M):=hI.mb.cell 0 rfl
  obtain ⟨fn1,caps1,hs1,hc1⟩:=hI.st
  have qs:=hs1.cell 0 (v := .func (.func fn1) #[] caps1) rfl
  have fs:=hs1.free 0
  have hkd:aj aA W2 W2.drew:=(aj.refl aA W2).drew
  have hx:=HX.out
  have hsc:qK mw (aI.drop (aI.length - (j+1)))=mX x mw (qK mw (aI.drop (aI.length - j))):=by
   have hq:aI.length - (j+1)<aI.length:=by omega
   rw [List.drop_eq_getElem_cons hq]
   have e1:aI.length - (j+1)+1=aI.length - j:=by omega
   have e2:aI[aI.length - (j+1)]=x:=by
    rw [hx,List.getD_eq_getElem?_getD,show aI.length - 1 - j=aI.length - (j+1) by omega,abr hq];rfl
   rw [e1,e2];rfl
  have HN:Hid (Calls ay 101 #[ak g.Nt,ah (x:Int),ah (mw:Int),.func (.func fn1) #[] caps1] W2.drew fun e w3=>∃ fn caps,e = .returned (.func (.func fn) #[] caps)/\w3.frozen? ⟨w2.heap.size,0,none⟩=false/\w3.cell? ⟨w2.heap.size,0,none⟩=some (.func (.func fn1) #[] caps1) /\
   EY o2 w w4.heap.size g.M g.Nt w.heap.size w2.heap.size mw aI (j+1) (w3.setCell ⟨w2.heap.size,0,none⟩ (.func (.func fn) #[] caps))/\KeepsFrom w4.heap.size W2 (w3.setCell ⟨w2.heap.size,0,none⟩ (.func (.func fn) #[] caps))/\iJ (zU W3.heap.size g.X) W2 (w3.setCell ⟨w2.heap.size,0,none⟩ (.func (.func fn) #[] caps))):=by
   refine (xR (HF2.out W2.drew (by have:=U3.out;have:=Ac.out;have:=hkd.size;omega)) x mw (qK mw (aI.drop (aI.length - j))) _ (hc1.still hkd) (EX _)).mono ?_
   rintro e w3 ⟨fn,caps,rfl,h5,k5⟩
   have k6:aj aA W2 w3:=hkd.trans k5
   have hs3:=k6.aC hs1 (fun f=>f)
   have kp:aj (only w2.heap.size) w3 (w3.setCell ⟨w2.heap.size,0,none⟩ (.func (.func fn) #[] caps)):=(aj.refl _ _).put 0 _
   have h01:=vG.out
   refine ⟨fn,caps,rfl,hs3.free 0,hs3.cell 0 rfl,⟨?_,?_,?_,fn,caps,hs3.set 0 _,?_⟩,?_,?_⟩
   ·exact (hI.aH.trans k6).dS (by omega) _ _
   ·exact kp.aC (k6.aC hI.mb (fun f=>f)) (fun e=>by unfold only at e;omega)
   ·have h7:=hI.yA;have h8:=k6.size;simp;omega
   ·rw [hsc]
    exact h5.aH kp (fun b hb e=>by unfold only at e;rw [e,aaB.out] at hb;cases hb)
   ·exact (KeepsFrom.nR k6).trans ((KeepsOthers.setCell _ _ _).from _)
   ·refine (iJ.nR k6 (fun i hi=>⟨abj (Ep.out i hi).1 Ac.out,fun f=>f⟩)).trans ⟨by simp,fun i hi=>?_⟩
    rw [Below.heap_setCell _ _ _ _ (by simp;exact (Ep.out i hi).2)]
  clear hsc hx hI hs1 hc1 hkd
  gi_wp2_with fail
  refine wC 10 (by kernel_rfl) (by kernel_rfl) (by kernel_rfl) ?_
  change wpStill _ _ (abx _) _ _ _
  simp only [List.take_succ_cons,aby,abz,abt]
  repeat still_step
  refine wpStill_nil ?_
  change wpListIn _ _ _ _ _ _ _ W2.drew
  gi_wp2_with fail
  refine ⟨trivial,CallsIn.mono (CallsIn.inRound l (callsIn_wide.2 HN.out)) ?_⟩
  rintro e w3 ⟨fn3,caps3,rfl,hf3,hc3,hend⟩
  have gI:=au hend
  clear hend HN qs fs qb q11 q14
  gi_wp2_with fail
  exact ⟨gI.out.2.1,gI.out.2.2,gI.out.1⟩
 case done =>
  rintro D W hD hI yO
  rw [zl] at hI
  obtain ⟨fn1,caps1,hs1,hc1⟩:=hI.st
  have cO:=hs1.cell 0 (v := .func (.func fn1) #[] caps1) rfl
  have Gq:=hI.aH.takeDeferred (D:=D) (by have h1:=vG.out;omega) (.deferred none)
  have nS:Hid (bG o (W.putObj D (.deferred none)) g.Nt g.M (qK mw aI) (.func (.func fn1) #[] caps1)):=by
   rw [Nat.sub_self,abt] at hc1
   refine YZ.out _ _ _ (hc1.iH (fun b cs T h5 h6=>⟨h5,h6.putObj yO rfl⟩))
  clear hI hs1 hc1
  go_wp2_with fail
  refine ⟨by simp,.inl ⟨_,_,rfl,run_takeDeferred yO,?_⟩⟩
  refine ⟨.func (.func fn1) #[] caps1,by simp [results,Tryz.f67,go_sem],fn1,caps1,rfl,nS.out,Gq⟩
end
def zV (m:MS) (k:Int):MD:=if k=3 then qK m.dA m.aI else if k=5 then m.nJ m.dA (.once 5) else .once k
section
variable {o:Ow} {w w':World} {G:eH} {g:MG} {s:Sh} {m:MS} {nv:Value} {ev:Option Ev}
theorem Kt (h:aQ o w G g s m ev nv) (k:Int):Calls ay 67 #[ak g.M,ah k] w fun e w'=>∃ fn caps,e = .returned (.func (.func fn) #[] caps)/\bG o w' g.Nt g.M (zV m k) (.func (.func fn) #[] caps)/\aj aA w w':=by
 unfold zV
 by_cases h3:k=3
 ·subst h3;rw [aV rfl];exact Ir h
 rw [aO h3]
 by_cases h5:k=5
 ·subst h5;rw [aV rfl];exact Ip h
 rw [aO h5]
 exact Io h.sh.fK k ⟨h3,h5⟩
theorem Ku (h:s.B.ji m.id=true):jg s m=zV m s.B.kind:=by
 unfold jg zV
 rw [aV h]
theorem aQ.F8 (h:aQ o w G g s m ev nv):∃ a c,w.cell? ⟨g.M,15,none⟩=some (.slice a m.prog.length c)/\m.prog.length<=1000/\∀ i op,m.prog[i]?=some op->∃ b off,a=some ⟨b,off,none⟩/\∀ j u,op.cells[j]?=some u->w.cell? ⟨b,off+i*4+j,none⟩=some u:=by
 obtain ⟨pv,rv,h1,⟨a,c,rfl,h2,h3⟩,_⟩:=h.aC
 refine ⟨a,c,h1.cell 15 rfl,h2,fun i op hi=>?_⟩
 obtain ⟨b,off,cs,e1,_,e3,e4⟩:=h3 (by have:=(abl.1 hi).1;omega)
 exact ⟨b,off,e1,fun j u hj=>e3.cell _ (e4 i op hi j u hj)⟩
theorem aQ.begin0 (h:aQ o w G g s m none nv) (p:Bool) {b:Nat} (hb:aB w b [aF g.M] 31) (ho:o b=0):∀ W2,W2=w.setCell ⟨g.M,22,none⟩ (.bool p) ->
 aQ o W2 G g s { m with lY:=p } none nv/\aj (In o [20+m.id]) w W2/\aB W2 b [aF g.M] 31:=by
 rintro W2 rfl
 obtain ⟨h3,k3⟩:=h.put 22 (.bool p) { m with lY:=p } none nv (fun pv rv=>rfl) ⟨rfl,rfl,rfl,rfl,rfl,rfl⟩
 exact ⟨h3,k3,hb.aP k3 ho (by simp<;>omega)⟩
def wE (o:Ow) (w:World) (G:eH) (g:MG) (s:Sh) (m:MS) (nv:Value) (p:Bool):Ending->World->Prop:=fun e w'=>∃ v,e = .returned v/\aQ o w' G g s { m with lY:=p } none nv/\bG o w' g.Nt g.M (jg s m) v/\aj (In o [20+m.id]) w w'
theorem Oo (h:aQ o w G g s m none nv) (hp:s.B.ji m.id=true):Calls ay 39 #[ak g.M] w (wE o w G g s m nv true):=by
 obtain ⟨W1,hW1⟩:∃ W1,W1=w.alloc (.cells #[aF g.M] 31):=⟨_,rfl⟩
 have k1:aj aA w W1:=by rw [hW1];exact (aj.refl _ _).alloc _
 have hb1:aB W1 w.heap.size [aF g.M] 31:=by rw [hW1];exact aB.aW w _ _
 have ho:o w.heap.size=0:=h.sh.fK _ (abg _)
 have h1:=h.still k1
 have c0:W1.cell? ⟨w.heap.size,0,none⟩=some (ak g.M):=hb1.cell 0 rfl
 have c1:=h1.m0
 have c2:=h1.s0.2.1
 have c3:=h1.c8
 have zn:Hid (aj aA W1 W1.drew):=(aj.refl aA W1).drew
 have HP:=au (sK (p:=true) (k:=s.B.oV m.id) (h1.still zn.out).sh.qg hp rfl)
 have uT:Hid (∀ W,aj aA W1 W->W.cell? ⟨w.heap.size,0,none⟩=some (ak g.M)/\W.frozen? ⟨g.M,22,none⟩=false/\W.cell? ⟨g.M,22,none⟩=some (.bool m.lY) /\
  ∀ W2,W2=W.setCell ⟨g.M,22,none⟩ (.bool true)->W2.cell? ⟨w.heap.size,0,none⟩=some (ak g.M)/\(∃ a c,W2.cell? ⟨g.M,16,none⟩=some (.slice a m.aU.length c)) /\
   Hid (Calls ay 67 #[ak g.M,ah (s.B.oV m.id)] W2 fun e w'=>∃ fn caps,e = .returned (.func (.func fn) #[] caps)/\Hid (wE o w G g s m nv true (.returned (.func (.func fn) #[] caps)) w'))):=fun W hW=>by
  have h2:=h1.still hW
  have hb2:=hW.aC hb1 (fun f=>f)
  refine ⟨hb2.cell 0 rfl,h2.free 22,h2.cell 22 _ (fun _ _=>rfl),fun W2 hW2=>?_⟩
  obtain ⟨h3,k3,hb3⟩:=h2.begin0 true hb2 ho W2 hW2
  obtain ⟨rv,er,_,ra,rc,y9⟩:=h3.Bv
  refine ⟨hb3.cell 0 rfl,⟨ra,rc,by rw [er,y9]⟩,?_⟩
  have ek:s.B.oV m.id=s.B.kind:=by unfold Bd.oV;rw [aV hp]
  rw [ek]
  refine (Kt h3 s.B.kind).mono ?_
  rintro e w' ⟨fn,caps,rfl,h4,k4⟩
  refine ⟨fn,caps,rfl,_,rfl,h3.still k4,?_,(k1.bU.trans hW.bU).trans (k3.trans k4.bU)⟩
  rw [Ku hp];exact h4
 have HW1:=au hW1
 generalize s.B.oV m.id=kd at *
 generalize m.lY=an at *
 generalize m.aU.length=rl at *
 clear h h1 hW1 k1 hb1 ho hp
 generalize wE o w G g s m nv true=PO at *
 go_enter func39,ntmps39
 go_wp2_with fail
 rw [<- HW1.out]
 refine aN 11 rfl (by kernel_rfl) (by kernel_rfl) (fun K hK=>?_)
 change wpStill _ _ (abx _) _ _ _
 simp only [List.take_succ_cons,aby,abz,abt] at hK ⊢
 repeat still_step
 refine wpStill_nil ?_
 change ite _ (Oper.wp _ _ _ _ _ _) _
 go_simp
 refine HP.out.mono ?_
 rintro e w2 ⟨rfl,hw2⟩
 refine hK _ _ ?_
 clear hK K
 obtain ⟨d0,d1,d2,hs⟩:=uT.out w2 (by rw [<- hw2];exact zn.out)
 obtain ⟨W2,hW2⟩:∃ W2,W2=w2.setCell ⟨g.M,22,none⟩ (.bool true):=⟨_,rfl⟩
 obtain ⟨e0,⟨ra,rc,e1⟩,HE⟩:=hs W2 hW2
 have HW2:=au hW2
 rw [hW2] at e0 e1
 clear c0 c1 c2 c3 HP hs hW2 hw2 uT zn
 repeat still_step
 refine wpStill_nil ?_
 go_wp2_with fail
 rw [<- HW2.out]
 refine HE.out.mono ?_
 rintro e w3 ⟨fn,caps,rfl,HR⟩
 go_wp2_with fail
 exact HR.out
theorem Oq (h:aQ o w G g s m none nv) (hp:s.B.ji m.id=false) (hlt:¬ m.aU.length<m.prog.length):Calls ay 39 #[ak g.M] w (wE o w G g s m nv false):=by
 obtain ⟨W1,hW1⟩:∃ W1,W1=w.alloc (.cells #[aF g.M] 31):=⟨_,rfl⟩
 have k1:aj aA w W1:=by rw [hW1];exact (aj.refl _ _).alloc _
 have hb1:aB W1 w.heap.size [aF g.M] 31:=by rw [hW1];exact aB.aW w _ _
 have ho:o w.heap.size=0:=h.sh.fK _ (abg _)
 have h1:=h.still k1
 have c0:W1.cell? ⟨w.heap.size,0,none⟩=some (ak g.M):=hb1.cell 0 rfl
 have c1:=h1.m0
 have c2:=h1.s0.2.1
 have c3:=h1.c8
 have zn:Hid (aj aA W1 W1.drew):=(aj.refl aA W1).drew
 have HP:=au (sK (p:=false) (k:=s.B.oV m.id) (h1.still zn.out).sh.qg hp rfl)
 have uT:Hid (∀ W,aj aA W1 W->W.cell? ⟨w.heap.size,0,none⟩=some (ak g.M)/\W.frozen? ⟨g.M,22,none⟩=false/\W.cell? ⟨g.M,22,none⟩=some (.bool m.lY) /\
  ∀ W2,W2=W.setCell ⟨g.M,22,none⟩ (.bool false)->W2.cell? ⟨w.heap.size,0,none⟩=some (ak g.M)/\(∃ a c,W2.cell? ⟨g.M,16,none⟩=some (.slice a m.aU.length c))/\(∃ a c,W2.cell? ⟨g.M,15,none⟩=some (.slice a m.prog.length c)) /\
   Hid (wE o w G g s m nv false (.returned .nilFunc) W2)):=fun W hW=>by
  have h2:=h1.still hW
  have hb2:=hW.aC hb1 (fun f=>f)
  refine ⟨hb2.cell 0 rfl,h2.free 22,h2.cell 22 _ (fun _ _=>rfl),fun W2 hW2=>?_⟩
  obtain ⟨h3,k3,hb3⟩:=h2.begin0 false hb2 ho W2 hW2
  obtain ⟨rv,er,_,ra,rc,y9⟩:=h3.Bv
  obtain ⟨pa,pc,ep,_,_⟩:=h3.F8
  refine ⟨hb3.cell 0 rfl,⟨ra,rc,by rw [er,y9]⟩,⟨pa,pc,ep⟩,_,rfl,h3,?_,(k1.bU.trans hW.bU).trans k3⟩
  have hbe:jg s m = .nil:=by
   unfold jg
   rw [hp,aO (by decide),List.getElem?_eq_none (by omega)]
  rw [hbe];rfl
 have HW1:=au hW1
 have oz:¬ (m.aU.length:Int)<(m.prog.length:Int):=by omega
 have aaV:decide ((m.aU.length:Int)<(m.prog.length:Int))=false:=dD oz
 generalize s.B.oV m.id=kd at *
 generalize m.lY=an at *
 generalize m.aU.length=rl at *
 generalize m.prog.length=pl at *
 clear h h1 hW1 k1 hb1 ho hp hlt
 generalize wE o w G g s m nv false=PO at *
 go_enter func39,ntmps39
 go_wp2_with fail
 rw [<- HW1.out]
 refine aN 11 rfl (by kernel_rfl) (by kernel_rfl) (fun K hK=>?_)
 change wpStill _ _ (abx _) _ _ _
 simp only [List.take_succ_cons,aby,abz,abt] at hK ⊢
 repeat still_step
 refine wpStill_nil ?_
 change ite _ (Oper.wp _ _ _ _ _ _) _
 go_simp
 refine HP.out.mono ?_
 rintro e w2 ⟨rfl,hw2⟩
 refine hK _ _ ?_
 clear hK K
 obtain ⟨d0,d1,d2,hs⟩:=uT.out w2 (by rw [<- hw2];exact zn.out)
 obtain ⟨W2,hW2⟩:∃ W2,W2=w2.setCell ⟨g.M,22,none⟩ (.bool false):=⟨_,rfl⟩
 obtain ⟨e0,⟨ra,rc,e1⟩,⟨pa,pc,e2⟩,HE⟩:=hs W2 hW2
 rw [hW2] at e0 e1 e2 HE
 clear c0 c1 c2 c3 HP hs hW2 hw2 uT zn
 repeat still_step
 refine wpStill_nil ?_
 go_wp2_with fail
 exact HE.out
theorem QB (h:aQ o w G g s m none nv) (hp:s.B.ji m.id=false) (hlt:m.aU.length<m.prog.length):Calls ay 39 #[ak g.M] w (wE o w G g s m nv false):=by
 obtain ⟨W1,hW1⟩:∃ W1,W1=w.alloc (.cells #[aF g.M] 31):=⟨_,rfl⟩
 have k1:aj aA w W1:=by rw [hW1];exact (aj.refl _ _).alloc _
 have hb1:aB W1 w.heap.size [aF g.M] 31:=by rw [hW1];exact aB.aW w _ _
 have ho:o w.heap.size=0:=h.sh.fK _ (abg _)
 have h1:=h.still k1
 have c0:W1.cell? ⟨w.heap.size,0,none⟩=some (ak g.M):=hb1.cell 0 rfl
 have c1:=h1.m0
 have c2:=h1.s0.2.1
 have c3:=h1.c8
 have zn:Hid (aj aA W1 W1.drew):=(aj.refl aA W1).drew
 have HP:=au (sK (p:=false) (k:=s.B.oV m.id) (h1.still zn.out).sh.qg hp rfl)
 obtain ⟨op,XB⟩:∃ op,m.prog[m.aU.length]?=some op:=⟨_,abr hlt⟩
 have uT:Hid (∀ W,aj aA W1 W->W.cell? ⟨w.heap.size,0,none⟩=some (ak g.M)/\W.frozen? ⟨g.M,22,none⟩=false/\W.cell? ⟨g.M,22,none⟩=some (.bool m.lY) /\
  ∀ W2,W2=W.setCell ⟨g.M,22,none⟩ (.bool false)->W2.cell? ⟨w.heap.size,0,none⟩=some (ak g.M)/\(∃ a c,W2.cell? ⟨g.M,16,none⟩=some (.slice a m.aU.length c)) /\
   (∃ b off c,W2.cell? ⟨g.M,15,none⟩=some (.slice (some ⟨b,off,none⟩) m.prog.length c)/\W2.cell? ⟨b,off+m.aU.length*4,none⟩=some (ah op.k)/\W2.cell? ⟨b,off+m.aU.length*4+1,none⟩=some (ah op.a)/\W2.cell? ⟨b,off+m.aU.length*4+2,none⟩=some (ah op.b)/\W2.cell? ⟨b,off+m.aU.length*4+3,none⟩=some (ah op.c)) /\
   Hid (wE o w G g s m nv false (.returned (.func (.func 68) #[] #[ak w.heap.size,ak W2.heap.size])) (W2.alloc (.cells #[ah op.k,ah op.a,ah op.b,ah op.c] 45)))):=fun W hW=>by
  have h2:=h1.still hW
  have hb2:=hW.aC hb1 (fun f=>f)
  refine ⟨hb2.cell 0 rfl,h2.free 22,h2.cell 22 _ (fun _ _=>rfl),fun W2 hW2=>?_⟩
  obtain ⟨h3,k3,hb3⟩:=h2.begin0 false hb2 ho W2 hW2
  obtain ⟨rv,er,_,ra,rc,y9⟩:=h3.Bv
  obtain ⟨pa,pc,ep,_,hpo⟩:=h3.F8
  obtain ⟨pb,off,rfl,hcs⟩:=hpo _ op XB
  have k4:aj aA W2 (W2.alloc (.cells op.cells.toArray 45)):=(aj.refl _ _).alloc _
  refine ⟨hb3.cell 0 rfl,⟨ra,rc,by rw [er,y9]⟩,⟨pb,off,pc,ep,hcs 0 _ rfl,hcs 1 _ rfl,hcs 2 _ rfl,hcs 3 _ rfl⟩,_,rfl,h3.still k4,?_,(k1.bU.trans hW.bU).trans (k3.trans k4.bU)⟩
  have hbe:jg s m = .gZ op:=by
   unfold jg
   rw [hp,aO (by decide),XB]
  rw [hbe]
  exact ⟨[w.heap.size,W2.heap.size],rfl,_,_,rfl,ho,k4.aC hb3 (fun f=>f),_,_,rfl,h3.sh.fK _ (abg _),aB.aW W2 op.cells _,rfl⟩
 have HW1:=au hW1
 have hpl:m.prog.length<=1000:=by
  obtain ⟨_,_,_,h9,_⟩:=h.F8
  exact h9
 have oz:(m.aU.length:Int)<(m.prog.length:Int):=by omega
 have aaW:(m.prog.length:Int)<=1000:=by omega
 have hmf:=oH
 obtain ⟨ok,oa,ob,oc⟩:=op
 simp only at uT
 generalize s.B.oV m.id=kd at *
 generalize m.lY=an at *
 generalize wE o w G g s m nv false=PO at *
 generalize hrl:m.aU.length=rl at *
 generalize hpl2:m.prog.length=pl at *
 clear h h1 hW1 k1 hb1 ho hp XB hrl hpl2
 go_enter func39,ntmps39
 go_wp2_with fail
 rw [<- HW1.out]
 refine aN 11 rfl (by kernel_rfl) (by kernel_rfl) (fun K hK=>?_)
 change wpStill _ _ (abx _) _ _ _
 simp only [List.take_succ_cons,aby,abz,abt] at hK ⊢
 repeat still_step
 refine wpStill_nil ?_
 change ite _ (Oper.wp _ _ _ _ _ _) _
 go_simp
 refine HP.out.mono ?_
 rintro e w2 ⟨rfl,hw2⟩
 refine hK _ _ ?_
 clear hK K
 obtain ⟨d0,d1,d2,hs⟩:=uT.out w2 (by rw [<- hw2];exact zn.out)
 obtain ⟨W2,hW2⟩:∃ W2,W2=w2.setCell ⟨g.M,22,none⟩ (.bool false):=⟨_,rfl⟩
 obtain ⟨e0,⟨ra,rc,e1⟩,⟨pb,off,pc,e2,y0,y1,y2,y3⟩,HE⟩:=hs W2 hW2
 rw [hW2] at e0 e1 e2 HE y0 y1 y2 y3
 clear c0 c1 c2 c3 HP hs hW2 hw2 uT zn
 repeat still_step
 refine wpStill_nil ?_
 go_wp2_with fail
 have h9:=HE.out
 rw [show (w2.setCell ⟨g.M,22,none⟩ (.bool false)).heap.size=w2.heap.size from by simp] at h9
 exact h9
theorem Ot (h:aQ o w G g s m none nv):Calls ay 39 #[ak g.M] w (wE o w G g s m nv (s.B.ji m.id)):=by
 cases hp:s.B.ji m.id with
 | true=>exact Oo h hp
 | false =>
   by_cases hlt:m.aU.length<m.prog.length
   ·exact QB h hp hlt
   ·exact Oq h hp hlt
end
end
section
open Go.RowKit
theorem D9:∀ args w,(callFunc 162 args).run ay w = .ok (.enter 162 args) w:=fun args w=>by simp [callFunc,func162,go_sem];rfl
theorem BA:∀ args w,(callFunc 165 args).run ay w = .ok (.enter 165 args) w:=fun args w=>by simp [callFunc,func165,go_sem];rfl
theorem Dj:∀ args w,(callFunc 191 args).run ay w = .ok (.enter 191 args) w:=fun args w=>by simp [callFunc,func191,go_sem];rfl
theorem Ea:∀ args w,(callFunc 68 args).run ay w = .ok (.enter 68 args) w:=fun args w=>by simp [callFunc,func68,go_sem];rfl
theorem Eb:∀ args w,(callFunc 208 args).run ay w = .ok (.enter 208 args) w:=fun args w=>by simp [callFunc,func208,go_sem];rfl
theorem Ec:∀ args w,(callFunc 204 args).run ay w = .ok (.enter 204 args) w:=fun args w=>by simp [callFunc,func204,go_sem];rfl
theorem Ed:∀ args w,(callFunc 194 args).run ay w = .ok (.enter 194 args) w:=fun args w=>by simp [callFunc,func194,go_sem];rfl
theorem FX:∀ args w,(callFunc 187 args).run ay w = .ok (.enter 187 args) w:=fun args w=>by simp [callFunc,func187,go_sem];rfl
theorem Iu:∀ args w,(callFunc 174 args).run ay w = .ok (.enter 174 args) w:=fun args w=>by simp [callFunc,func174,go_sem];rfl
theorem Iw:∀ args w,(callFunc 195 args).run ay w = .ok (.enter 195 args) w:=fun args w=>by simp [callFunc,func195,go_sem];rfl
theorem Iy:∀ args w,(callFunc 196 args).run ay w = .ok (.enter 196 args) w:=fun args w=>by simp [callFunc,func196,go_sem];rfl
theorem FY:∀ args w,(callFunc 168 args).run ay w = .ok (.enter 168 args) w:=fun args w=>by simp [callFunc,func168,go_sem];rfl
theorem Ee:∀ args w,(callFunc 213 args).run ay w = .ok (.enter 213 args) w:=fun args w=>by simp [callFunc,func213,go_sem];rfl
theorem FZ:∀ args w,(callFunc 201 args).run ay w = .ok (.enter 201 args) w:=fun args w=>by simp [callFunc,func201,go_sem];rfl
theorem Dk:∀ args w,(callFunc 121 args).run ay w = .ok (.enter 121 args) w:=fun args w=>by simp [callFunc,func121,go_sem];rfl
theorem Dl:∀ args w,(callFunc 123 args).run ay w = .ok (.enter 123 args) w:=fun args w=>by simp [callFunc,func123,go_sem];rfl
theorem Dn:∀ args w,(callFunc 127 args).run ay w = .ok (.enter 127 args) w:=fun args w=>by simp [callFunc,func127,go_sem];rfl
theorem BD:∀ args w,(callFunc 155 args).run ay w = .ok (.enter 155 args) w:=fun args w=>by simp [callFunc,func155,go_sem];rfl
theorem zo:∀ args w,(callFunc 158 args).run ay w = .ok (.enter 158 args) w:=fun args w=>by simp [callFunc,func158,go_sem];rfl
theorem Ef:∀ args w,(callFunc 119 args).run ay w = .ok (.enter 119 args) w:=fun args w=>by simp [callFunc,func119,go_sem];rfl
section
variable {o:Ow} {w w':World} {G:eH} {g:MG} {s:Sh} {m:MS} {nv:Value} {ev:Option Ev} {N:Nat}
def F9 (d:MD):Prop:=∀ {o:Ow} {w:World} {G:eH} {g:MG} {s:Sh} {m:MS} {nv:Value} {N:Nat},aQ o w G g s m none nv->qV N s m->N<=1000000000->lM m.aI.length d->∀ v:Value,iW o w (G.D 0) (g.Nt,g.M) (30+m.id) d v->dR d=false ->
 ∃ fn,∃ bs:List Nat,v = .func (.func fn) #[] (bs.map aF).toArray/\(∀ args w,(callFunc fn args).run ay w = .ok (.enter fn args) w)/\Calls ay fn (bs.map aF).toArray w (aG o w G g nv m.id (stepM s m d))
theorem TF (h:aQ o w G g s m none nv) (ok:qV N s m) (hN:N<=1000000000) (d:MD) (hd:lM m.aI.length d) (v:Value) (hv:iW o w (G.D 0) (g.Nt,g.M) (30+m.id) d v) (hnil:dR d=false) :
 ∃ fn,∃ bs:List Nat,v = .func (.func fn) #[] (bs.map aF).toArray/\(∀ args w,(callFunc fn args).run ay w = .ok (.enter fn args) w)/\Calls ay fn (bs.map aF).toArray w (aG o w G g nv m.id (stepM s m d)):=by
 have hres:m.aU.length<=1000000000:=abh ok.aU hN
 have hop:s.Q.gU<=1000000000:=abh ok.gU (by omega)
 cases d with
 | nil=>cases hnil
 | add x t =>
   obtain ⟨tv,ht,bs,e,hc⟩:=hv
   obtain ⟨b0,b1,b2,rfl,⟨o0,k0⟩,⟨o1,k1⟩,⟨o2,k2⟩⟩:=caps3 hc
   refine ⟨_,_,e,Dk,(EN h x t tv ht b0 b1 b2 o0 o1 o2 k0 k1 k2).mono ?_⟩
   rintro e w' ⟨rfl,h1,h2,h3⟩
   have ee:(stepM s m (.add x t)).next=t/\(stepM s m (.add x t)).ev=none:=by
    simp only [stepM]
    split<;>exact ⟨rfl,rfl⟩
   refine aG.same (by rw [ee.2];exact h1) (by rw [ee.1];exact h2) h3
 | gZ o =>
   obtain ⟨bs,e,hc⟩:=Kr h o v hv hres
   exact ⟨_,bs,e,Ea,hc⟩
 | once k =>
   obtain ⟨bs,e,hc⟩:=Oj h k v hv ok.bK
   exact ⟨_,bs,e,Ef,hc⟩
 | lX x c t =>
   obtain ⟨bs,e,hc⟩:=NR h x c t v hv
   exact ⟨_,bs,e,Dl,hc⟩
 | oG c t =>
   obtain ⟨bs,e,hc⟩:=NS h c t v hv
   exact ⟨_,bs,e,Dn,hc⟩
 | iD c f t =>
   obtain ⟨bs,e,hc⟩:=JV h c f t v hv
   exact ⟨_,bs,e,BD,hc⟩
 | mW t =>
   obtain ⟨bs,e,hc⟩:=JU h t v hv
   exact ⟨_,bs,e,zo,hc⟩
 | field b f t =>
   obtain ⟨bs,e,hc⟩:=JW h b f t v hv hres
   exact ⟨_,bs,e,Ed,hc⟩
 | load o b =>
   obtain ⟨bs,e,hc⟩:=NZ h o b v hv hd.1 hd.2 hres
   exact ⟨_,bs,e,FY,hc⟩
 | get o =>
   obtain ⟨bs,e,hc⟩:=Qm h o v hv hd.1 hd.2 hres
   exact ⟨_,bs,e,Iu,hc⟩
 | jC x rd =>
   obtain ⟨bs,e,hc⟩:=Qq h rd x v hv
   exact ⟨_,bs,e,Iy,hc⟩
 | last rd =>
   obtain ⟨bs,e,hc⟩:=Oa h rd v hv hres
   exact ⟨_,bs,e,Iw,hc⟩
 | alloc o k =>
   obtain ⟨bs,e,hc⟩:=JX h o k v hv hd.2
   exact ⟨_,bs,e,D9,hc⟩
 | assign o k =>
   obtain ⟨bs,e,hc⟩:=Ii h o k v hv hd.2
   exact ⟨_,bs,e,BA,hc⟩
 | iQ o all =>
   obtain ⟨bs,e,hc⟩:=JY h o all v hv
   exact ⟨_,bs,e,Eb,hc⟩
 | iK o k =>
   obtain ⟨bs,e,hc⟩:=J7 h o k v hv hd.2 ok.bK hop (ok.q k)
   exact ⟨_,bs,e,Dj,hc⟩
 | ig o k =>
   obtain ⟨bs,e,hc⟩:=J5 h o k v hv hd.2 hres
   exact ⟨_,bs,e,Ec,hc⟩
 | fD sl c t =>
   obtain ⟨bs,e,hc⟩:=J8 h sl c t v hv hop
   exact ⟨_,bs,e,Ee,hc⟩
 | fill o a =>
   obtain ⟨bs,e,hc⟩:=N7 h o a v hv hd.2.1 hd.2.2
   exact ⟨_,bs,e,FX,hc⟩
 | zero o a i =>
   obtain ⟨bs,e,hc⟩:=N8 h o a i v hv hd.1.1.1 hd.1.1.2 (by have h1:=hd.1.2.2;have h2:=hd.2;omega) hres
   exact ⟨_,bs,e,FZ,hc⟩
theorem EZ (d:MD):F9 d:=fun h ok hN hd v hv hnil=>TF h ok hN d hd v hv hnil
theorem aQ.xX (h:aQ o w G g s m ev nv) (d:MD):aQ o w G g s { m with next:=d } ev nv :=
 ⟨h.sh,h.aC,h.oM,h.aI,h.oX,h.bJ,h.uN,h.nt,h.qX,h.qB,h.box8,h.uO,h.pK,h.uP⟩
def jX (o:Ow) (w:World) (G:eH) (g:MG) (s:Sh) (m:MS):Prop:=∃ ev nv,aQ o w G g s m ev nv/\iW o w (G.D 0) (g.Nt,g.M) (30+m.id) m.next nv
end
end
section
attribute [local go_sem] Oper.semAt_some
open Go.RowKit
section
variable {o o':Ow} {w w':World} {G:eH} {g:MG} {s:Sh} {m:MS} {nv:Value} {ev:Option Ev}
theorem iW.aP {D0 q:Nat} {gg:Nat × Nat} {d:MD} {v:Value} {I:List Nat} (h:iW o w D0 gg q d v) (k:aj (In o I) w w') (h0:I.contains 0=false) (hq:I.contains q=false):iW o w' D0 gg q d v:=by
 cases d with
 | fD sl c t =>
   obtain ⟨cv,tv,h1,h2,h3⟩:=h
   exact ⟨cv,tv,h1.aP k h0 hq,h2.aP k h0,h3.aH k (fun b hb=>fU hb h0)⟩
 | _=>exact iW.of (bG.aP (o:=o) (Nt:=gg.1) (M:=gg.2) h k h0)
theorem iW.ext {D0 q:Nat} {gg:Nat × Nat} {d:MD} {v:Value} (h:iW o w D0 gg q d v) (e:dL w o o'):iW o' w D0 gg q d v:=by
 cases d with
 | fD sl c t =>
   obtain ⟨cv,tv,h1,h2,h3⟩:=h
   exact ⟨cv,tv,h1.ext e,bG.ext e h2,h3.ext e⟩
 | _=>exact iW.of (bG.ext (o:=o) (Nt:=gg.1) (M:=gg.2) e h)
theorem iW.form2 {D0 q:Nat} {gg:Nat × Nat} {d:MD} {v:Value} (h:iW o w D0 gg q d v):(dR d=true/\v = .nilFunc)\/(dR d=false/\∃ fn caps,v = .func (.func fn) #[] caps):=by
 cases d with
 | nil=>exact .inl ⟨rfl,h⟩
 | fD sl c t =>
   obtain ⟨cv,tv,h1,h2,bs,rfl,_⟩:=h
   exact .inr ⟨rfl,_,_,rfl⟩
 | _=>exact .inr ⟨rfl,bG.xQ (o:=o) (Nt:=gg.1) (M:=gg.2) h rfl⟩
def xY:Option Ev->Value
 | none => .agg #[ah 0,ah 0,ah 0,ah 0,ah 0,ah 0]
 | some e => .agg #[ah 0,ah (e.Xk:Int),ah (e.kind:Int),ah (e.op:Int),ah e.code,ah (e.value:Int)]
def wW (ev:Option Ev):Value := .bool ev.isSome
abbrev zero6:Array Value:=#[ah 0,ah 0,ah 0,ah 0,ah 0,ah 0]
def uU (w:World) (M:Nat):World:=((((((w.setCell ⟨M,23,none⟩ (ah 0)).setCell ⟨M,24,none⟩ (ah 0)).setCell ⟨M,25,none⟩ (ah 0)).setCell ⟨M,26,none⟩ (ah 0)).setCell ⟨M,27,none⟩ (ah 0)).setCell ⟨M,28,none⟩ (ah 0)).setCell ⟨M,29,none⟩ (.bool false)
theorem aQ.XC (h:aQ o w G g s m ev nv):aQ o (uU w g.M) G g s m none nv/\aj (In o [20+m.id]) w (uU w g.M):=by
 have k:aj (only g.M) w (uU w g.M):=(((((((aj.refl _ _).put _ _).put _ _).put _ _).put _ _).put _ _).put _ _).put _ _
 exact h.struct k m none nv (fun pv rv hb=>by
  have:=((((((hb.set 23 (ah 0)).set 24 (ah 0)).set 25 (ah 0)).set 26 (ah 0)).set 27 (ah 0)).set 28 (ah 0)).set 29 (.bool false)
  obtain ⟨a,b,c,d,e,f,t,he⟩:=NU ev
  unfold mY at this ⊢
  rw [he] at this
  exact this) ⟨rfl,rfl,rfl,rfl,rfl,rfl⟩
theorem aQ.pick0 (h:aQ o w G g s m ev nv) {d:MD} (hn:iW o w (G.D 0) (g.Nt,g.M) (30+m.id) d nv):∃ o1 W2,W2=(uU (w.alloc (.cells zero6 41)) g.M).setCell ⟨g.M,19,none⟩ (ah ((m.aY:Int)+1))/\dL w o o1/\o1 w.heap.size=99 /\
 aQ o1 W2 G g s { m with aY:=m.aY+1 } none nv/\iW o1 W2 (G.D 0) (g.Nt,g.M) (30+m.id) d nv/\aj (In o (aT m.id)) w W2/\aB W2 w.heap.size zero6.toList 41:=by
 obtain ⟨W0,hW0⟩:∃ W0,W0=w.alloc (.cells zero6 41):=⟨_,rfl⟩
 have k0:aj aA w W0:=by rw [hW0];exact (aj.refl _ _).alloc _
 have hR:aB W0 w.heap.size zero6.toList 41:=by rw [hW0];exact aB.aW w _ _
 have e0:W0.heap.size=w.heap.size+1:=by rw [hW0];simp
 obtain ⟨o1,ho1⟩:∃ o1,o1=o.put w.heap.size 99:=⟨_,rfl⟩
 have hext:dL w o o1:=by rw [ho1];exact Ow.pq (.inl (abg _))
 have hR1:o1 w.heap.size=99:=by rw [ho1];exact Ow.rG _ _ _
 have hf1:jS o1 W0:=by rw [ho1];exact Ow.uh h.sh.fK k0.size (by omega)
 have h0:aQ o1 W0 G g s m ev nv:=h.UU k0 hext hf1
 have n0:iW o1 W0 (G.D 0) (g.Nt,g.M) (30+m.id) d nv:=(hn.ext hext).aP (I:=[]) k0.bU rfl rfl
 obtain ⟨h1,k1⟩:=h0.XC
 obtain ⟨h2,k2⟩:=h1.put 19 (ah ((m.aY:Int)+1)) { m with aY:=m.aY+1 } none nv (fun pv rv=>rfl) ⟨rfl,rfl,rfl,rfl,rfl,rfl⟩
 have i8:m.id<8:=abj h.qB h.box8
 refine ⟨o1,_,by rw [hW0],hext,hR1,h2,?_,?_,?_⟩
 ·exact (n0.aP k1 (by simp<;>omega) (by simp<;>omega)).aP k2 (by simp<;>omega) (by simp<;>omega)
 ·refine (k0.bU (o:=o) (I:=aT m.id)).jI (k1.trans k2) (fun i hi hin=>?_)
  unfold In at hin ⊢
  rw [hext i hi] at hin
  simp at hin
  simp [aT,hin]
 ·exact (hR.aP k1 hR1 (by simp<;>omega)).aP k2 hR1 (by simp<;>omega)
theorem aQ.LQ {R:Nat} (h:aQ o w G g s m ev nv) {d:MD} {v:Value} (hn:iW o w (G.D 0) (g.Nt,g.M) (30+m.id) d v) (k:aj (only R) w w') (hR:o R=99):aQ o w' G g s m ev nv/\iW o w' (G.D 0) (g.Nt,g.M) (30+m.id) d v:=by
 have i8:m.id<8:=abj h.qB h.box8
 have k1:aj (In o [99]) w w':=k.rU hR rfl
 exact ⟨h.vK k1 rfl (by simp<;>omega) (h.sh.aP k1 rfl h.box8) rfl rfl,hn.aP k1 rfl (by simp<;>omega)⟩
theorem TG (fn:Nat) (caps:Array Value):∀ w,(binOp .eql 95 (.func (.func fn) #[] caps) .nilFunc).run ay w = .ok (.bool false) w:=fun w=>by first|rfl|(simp [binOp,go_sem];done)|(simp [binOp,go_sem];rfl)
theorem VY:∀ w,(binOp .eql 95 .nilFunc .nilFunc).run ay w = .ok (.bool true) w:=fun w=>by first|rfl|(simp [binOp,go_sem];done)|(simp [binOp,go_sem];rfl)
end
section
variable {o:Ow} {w w':World} {G:eH} {g:MG} {s:Sh} {m:MS} {nv:Value} {ev:Option Ev}
theorem QC (h:aQ o w G g s m ev nv):Calls ay 22 #[ak g.M] w fun e w'=>e = .returned (ah (m.held:Int))/\w=w':=by
 have c:=h.c18
 generalize m.held=x at *
 clear h
 go_enter func22,ntmps22
 go_wp2_with fail
 go_ret
 exact ⟨rfl,rfl⟩
end
section
variable {o:Ow} {w w':World} {G:eH} {g:MG} {s:Sh} {m:MS} {nv:Value} {ev:Option Ev}
theorem QD (h:aQ o w G g s m ev nv):Calls ay 20 #[ak g.M] w fun e w'=>∃ v,e = .returned v/\w'.ownsRow w.heap.size 3 1 v m.aI.length (bg m.aI)/\aj aA w w':=by
 have c:=h.c9
 have hle:=h.EP
 have HC:=au (uM (some ⟨g.X,0,none⟩) m.aI.length m.aI.length (bg m.aI) w ⟨by simp [bg],fun _=>⟨g.X,0,rfl,fun j u hj=>by
  rw [Nat.zero_add]
  exact h.aI.cell j hj⟩⟩ (fun e=>by cases e) (by omega) (fun u hu=>by obtain ⟨z,_,rfl⟩:=List.mem_map.1 hu;rfl))
 generalize bg m.aI=vs at *
 generalize m.aI.length=n at *
 clear h
 go_enter func20,ntmps20
 go_wp2_with fail
 refine HC.out.mono ?_
 rintro e w1 ⟨v,rfl,h1,k1⟩
 have HE:=au (And.intro h1 k1)
 clear h1 k1 HC
 go_wp2_with fail
 go_ret
 exact ⟨_,rfl,HE.out.1,HE.out.2⟩
theorem BF (fn:Nat) (caps:Array Value):∀ w,(binOp .neq 95 (.func (.func fn) #[] caps) .nilFunc).run ay w = .ok (.bool true) w:=fun w=>by first|rfl|(simp [binOp,go_sem];done)|(simp [binOp,go_sem];rfl)
theorem LU:∀ w,(binOp .neq 95 .nilFunc .nilFunc).run ay w = .ok (.bool false) w:=fun w=>by first|rfl|(simp [binOp,go_sem];done)|(simp [binOp,go_sem];rfl)
theorem aQ.c17 (h:aQ o w G g s m ev nv):w.cell? ⟨g.M,17,none⟩=some nv:=h.cell 17 _ (fun _ _=>rfl)
theorem TI (h:aQ o w G g s m ev .nilFunc):Calls ay 23 #[ak g.M] w fun e w'=>e = .returned (.bool false)/\w=w':=by
 have c:=h.c17
 have hn:=LU
 clear h
 go_enter func23,ntmps23
 go_wp2_with fail
 go_ret
 exact ⟨rfl,rfl⟩
theorem QE {fn:Nat} {caps:Array Value} (h:aQ o w G g s m ev (.func (.func fn) #[] caps)):Calls ay 23 #[ak g.M] w fun e w'=>e = .returned (.bool true)/\w=w':=by
 have c:=h.c17
 have hn:=BF fn caps
 clear h
 go_enter func23,ntmps23
 go_wp2_with fail
 go_ret
 exact ⟨rfl,rfl⟩
end
end
section
section
variable {H:HS}
theorem LV (k:Nat):(H.dh k).2.2.ww=H.ww/\(H.dh k).2.2.c=H.c:=by unfold HS.dh;split<;>exact ⟨rfl,rfl⟩
theorem XD (a:Nat):(H.fA a).ww=H.ww/\(H.fA a).c=H.c:=by
 unfold HS.fA
 split
 ·exact ⟨rfl,rfl⟩
 ·split<;>exact ⟨rfl,rfl⟩
theorem TJ (a:Nat) (f:Int):(H.jf a f).ww=H.ww/\(H.jf a f).c=H.c:=by
 unfold HS.jf
 split
 ·exact ⟨rfl,rfl⟩
 ·split<;>exact ⟨rfl,rfl⟩
theorem VZ (a c:Nat):(H.iZ a c).ww=H.ww/\(H.iZ a c).c=H.c:=by unfold HS.iZ;split<;>exact ⟨rfl,rfl⟩
theorem Iz (a:Nat) (f:Int) (v:Nat):(H.dX a f v).ww=H.ww/\(H.dX a f v).c=H.c:=by unfold HS.dX;split<;>exact ⟨rfl,rfl⟩
theorem XE (i:Int) (v:Nat):(H.ng i v).ww=H.ww/\(H.ng i v).c=H.c:=by unfold HS.ng;split<;>exact ⟨rfl,rfl⟩
theorem QF (k:Nat):(H.bT k).2.2.ww=H.ww/\(H.bT k).2.2.c=H.c:=by unfold HS.bT;split<;>exact ⟨rfl,rfl⟩
theorem Y0 (rd:RD):(rd.CV H).ww=H.ww/\(rd.CV H).c=H.c:=by
 cases rd with
 | field b f v=>exact Iz b f v
 | cell i v=>exact XE i v
end
def mg (W:Nat):MD->Nat
 | .gZ _=>W+25
 | .field _ _ t=>1+mg W t
 | .load _ _=>1
 | .get _=>1
 | .last _=>1
 | .alloc _ _=>W+24
 | .assign _ _=>W+23
 | .iQ _ all=>all.length+17
 | .iK _ _=>21
 | .ig _ _=>20
 | .fill _ _=>18
 | .zero _ _ i=>16 - i
 | _=>0
def qh:MD->Prop
 | .nil=>True
 | .gZ _=>True
 | .field _ _ t=>qh t/\dR t=false
 | .load _ _=>True
 | .get _=>True
 | .last _=>True
 | .alloc _ _=>True
 | .assign _ _=>True
 | .iQ _ all=>2<=all.length
 | .iK _ _=>True
 | .ig _ _=>True
 | .fill _ _=>True
 | .zero _ _ _=>True
 | _=>False
structure nO (s:Sh) (m:MS):Prop where
 ji:s.B.ji m.id=false
 gu:m.gu=0
 q:∀ k,s.Q.rw k=[]
 ww:16<=s.H.ww
structure zW (W:Nat) (m:MS) (d:MD) (r:lZ):Prop where
 s:nO r.s r.m
 nx:qh r.next
 ww:r.s.H.ww=W
 TK:mg W r.next+1<=mg W d
 aU:r.m.aU.length=if dR r.next then m.aU.length+1 else m.aU.length
section
variable {s:Sh} {m:MS}
theorem nO.heap (h:nO s m) {H:HS} (hw:H.ww=s.H.ww):nO { s with H:=H } m:=⟨h.ji,h.gu,h.q,by show 16<=H.ww;rw [hw];exact h.ww⟩
theorem nO.iq (h:nO s m) {H:HS} (hw:H.ww=s.H.ww) {d:MD} (hd:1<=mg s.H.ww d) (code:Int) (v:Nat):zW s.H.ww m d (iq { s with H:=H } m code v) :=
 ⟨⟨h.ji,h.gu,h.q,by show 16<=H.ww;rw [hw];exact h.ww⟩,trivial,hw,by show 0+1<=_;omega,by show (m.aU++[(code,v)]).length=m.aU.length+1;simp⟩
theorem nO.jU (h:nO s m) {H:HS} (hw:H.ww=s.H.ww) {d:MD} (hd:1<=mg s.H.ww d) (r:Int) (v:Nat):zW s.H.ww m d (jU { s with H:=H } m r v) :=
 ⟨⟨h.ji,h.gu,h.q,by show 16<=H.ww;rw [hw];exact h.ww⟩,trivial,hw,by show 0+1<=_;omega,by show (m.aU++[((0:Int),v)]).length=m.aU.length+1;simp⟩
theorem nO.next (h:nO s m) {H:HS} (hw:H.ww=s.H.ww) {d t:MD} (ht:qh t) (hn:dR t=false) (hd:mg s.H.ww t+1<=mg s.H.ww d):zW s.H.ww m d ⟨{ s with H:=H },m,t,none⟩ :=
 ⟨h.heap hw,ht,hw,hd,by rw [hn];rfl⟩
theorem IB {k:Nat} (hk:k<4):2^(k+1)<=16/\0<2^(k+1):=by
 rcases (by omega:k=0\/k=1\/k=2\/k=3) with rfl|rfl|rfl|rfl<;>decide
theorem Dp {W:Nat} {o:bQ} {all:List Nat} (h1:1<=all.length):qh (iC o all)/\dR (iC o all)=false/\mg W (iC o all)<=all.length+17:=by
 unfold iC
 split
 ·rename_i e;exact ⟨trivial,rfl,by show 18<=_;omega⟩
 ·rename_i e;exact ⟨by show 2<=_;omega,rfl,abg _⟩
theorem Kv {W:Nat} (H:HS) (o:bQ) {k:Nat} (hk:k<4) (hw:16<=H.ww) (e:H.ww=W) (h:(H.bT k).2.1=0):qh (iC o (H.bT k).1)/\dR (iC o (H.bT k).1)=false/\mg W (iC o (H.bT k).1)<=W+17:=by
 unfold HS.bT at h ⊢
 split
 ·rename_i e;rw [e] at h;cases h
 ·rename_i B hB
  have hlt:B<H.K.length:=by
   rw [List.findIdx?_eq_some_iff_getElem] at hB
   exact hB.1
  have hK:(H.assign B k).K.getD B 0=k+1:=by
   show (H.K.set B (k+1)).getD B 0=k+1
   exact nV hlt _
  have hl:((H.assign B k).bZ B).length=H.ww/2^(k+1):=by
   unfold HS.bZ
   rw [hK,aO (by omega)]
   simp [jD,HS.assign]
  have hp:=IB hk
  have h1:1<=H.ww/2^(k+1):=(Nat.le_div_iff_mul_le hp.2).2 (by omega)
  have h2:H.ww/2^(k+1)<=H.ww:=Nat.div_le_self _ _
  obtain ⟨c1,c2,c3⟩:=Dp (W:=W) (o:=o) (all:=(H.assign B k).bZ B) (by rw [hl];exact h1)
  exact ⟨c1,c2,by rw [hl] at c3;show mg W (iC o ((H.assign B k).bZ B))<=_;omega⟩
theorem Ou (h:nO s m) (o:bQ):zW s.H.ww m (.gZ o) (nT s m o):=by
 have d:=fun code v=>h.iq (H:=s.H) rfl (d := .gZ o) (by show 1<=_+25;omega) code v
 have g:=fun r v=>h.jU (H:=s.H) rfl (d := .gZ o) (by show 1<=_+25;omega) r v
 have nx:=fun {t:MD} (ht:qh t) (hn:dR t=false) (hd:mg s.H.ww t+1<=mg s.H.ww (.gZ o))=>h.next (H:=s.H) rfl ht hn hd
 have ly:∀ v rd,m.ni v rd = .last rd:=fun v rd=>by unfold MS.ni;rw [aV h.gu]
 have fd:∀ base f t,qh t->dR t=false->mg s.H.ww t<=5->zW s.H.ww m (.gZ o) (jA s m base f t):=fun base f t ht hn hc=>by
  unfold jA
  split
  ·exact d _ _
  ·exact nx (t := .field base f t) ⟨ht,hn⟩ rfl (by show 1+mg _ t+1<=_+25;omega)
 unfold nT
 repeat' split
 ·exact d _ _
 ·exact nx (t := .alloc o (iG o.b)) trivial rfl (by show _+24+1<=_+25;omega)
 ·exact fd _ _ (.load o (m.fP o.b)) trivial rfl (by show 1<=5;omega)
 ·rw [ly];exact fd _ _ (.last (.field (m.fP o.a) o.b (m.fP o.c))) trivial rfl (by show 1<=5;omega)
 ·exact nx (t := .get o) trivial rfl (by show 1+1<=_+25;omega)
 ·rw [ly];exact nx (t := .last (.cell o.a (m.fP o.b))) trivial rfl (by show 1+1<=_+25;omega)
 ·exact ⟨⟨h.ji,h.gu,h.q,h.ww⟩,trivial,rfl,by show 0+1<=_+25;omega,by show (m.aU++[((0:Int),0)]).length=m.aU.length+1;simp⟩
 ·exact g _ _
 ·exact d _ _
theorem E5 (h:nO s m) (d:MD) (hd:lM m.aI.length d) (hc:qh d) (hn:dR d=false):zW s.H.ww m d (stepM s m d):=by
 cases d with
 | nil=>cases hn
 | gZ o=>exact Ou h o
 | field base f t =>
   simp only [stepM]
   split
   ·exact h.iq (H:=s.H) rfl (by show 1<=1+_;omega) _ _
   ·exact h.next (H:=s.H) rfl hc.1 hc.2 (by show mg _ t+1<=1+mg _ t;omega)
 | load o base=>exact h.jU (H:=s.H) rfl (d := .load o base) (abg 1) _ _
 | get o=>exact h.jU (H:=s.H) rfl (d := .get o) (abg 1) _ _
 | last rd=>exact h.iq (Y0 rd).1 (d := .last rd) (abg 1) _ _
 | alloc o k =>
   simp only [stepM]
   split
   ·exact h.next (LV k).1 (t := .fill o (s.H.dh k).1) trivial rfl (by show 18+1<=_+24;omega)
   ·exact h.next (H:=s.H) rfl (t := .assign o k) trivial rfl (by show _+23+1<=_+24;omega)
 | assign o k =>
   simp only [stepM]
   split
   ·rename_i e
    obtain ⟨c1,c2,c3⟩:=Kv s.H o hd.2 h.ww rfl e
    exact h.next (QF k).1 c1 c2 (by show _+1<=_+23;omega)
   ·exact h.next (H:=s.H) rfl (t := .iK o k) trivial rfl (by show 21+1<=_+23;omega)
 | iQ o all =>
   have hc':2<=all.length:=hc
   have hl:(all.take (all.length - 1)).length=all.length - 1:=by simp
   obtain ⟨c1,c2,c3⟩:=Dp (W:=s.H.ww) (o:=o) (all:=all.take (all.length - 1)) (by omega)
   exact h.next (XD _).1 c1 c2 (by show _+1<=all.length+17;omega)
 | iK o k =>
   simp only [stepM]
   rw [h.q k]
   exact h.next (H:=s.H) rfl (t := .ig o k) trivial rfl (by show 20+1<=21;omega)
 | ig o k =>
   simp only [stepM]
   split
   ·exact h.next (LV k).1 (t := .fill o (s.H.dh k).1) trivial rfl (by show 18+1<=20;omega)
   ·exact h.iq (H:=s.H) rfl (by show 1<=20;omega) _ _
 | fill o a=>exact h.next (TJ _ _).1 (t := .zero o a 0) trivial rfl (by show 16 - 0+1<=18;omega)
 | zero o a i =>
   obtain ⟨hd1,hd2⟩:=hd
   have h15:=hd1.2.2
   simp only [stepM]
   split
   ·exact h.jU (VZ _ _).1 (by show 1<=16 - i;omega) _ _
   ·exact h.next (Iz _ _ _).1 (t := .zero o a (i+1)) trivial rfl (by show 16 - (i+1)+1<=16 - i;omega)
 | _=>exact hc.elim
structure BG (s:Sh) (m:MS):Prop where
 s:nO s m
 nx:qh m.next
 le:m.aU.length<=m.prog.length
 lt:dR m.next=false->m.aU.length<m.prog.length
def zq (W:Nat) (m:MS):Nat:=if dR m.next then (m.prog.length - m.aU.length)*(W+27) else (m.prog.length - m.aU.length - 1)*(W+27)+mg W m.next
theorem TL {d:MD} (h:dR d=true):d = .nil:=by cases d<;>first|rfl|cases h
theorem E8 {W R:Nat}:∀ d:MD,lM R d->qh d->dR d=false->1<=mg W d:=by
 intro d ho hc hn
 cases d with
 | nil=>cases hn
 | zero o a i =>
   obtain ⟨h1,h2⟩:=ho
   have:=h1.2.2
   show 1<=16 - i;omega
 | field b f t=>show 1<=1+_;omega
 | gZ o=>show 1<=_+25;omega
 | alloc o k=>show 1<=_+24;omega
 | assign o k=>show 1<=_+23;omega
 | iQ o all=>show 1<=_+17;omega
 | iK o k=>show 1<=21;omega
 | ig o k=>show 1<=20;omega
 | fill o k=>show 1<=18;omega
 | load _ _=>exact abg 1
 | get _=>exact abg 1
 | last _=>exact abg 1
 | _=>exact hc.elim
theorem nO.congr {m':MS} (h:nO s m) (e:m'.id=m.id/\m'.gu=m.gu):nO s m':=⟨by rw [e.1];exact h.ji,by rw [e.2];exact h.gu,h.q,h.ww⟩
theorem Fa {N:Nat} (ok:qA N s m) (h:BG s m) (hd:jG m=false):BG (cu s m).1 (cu s m).2.1/\(cu s m).1.H.ww=s.H.ww/\zq s.H.ww (cu s m).2.1+1<=zq s.H.ww m:=by
 have hle:=h.le
 have hp:=(DZ ok).2.2.2.1
 unfold cu at hp ⊢
 by_cases hn:dR m.next=true
 ·rw [aV hn] at hp ⊢
  have hlt:m.aU.length<m.prog.length:=by
   unfold jG at hd
   rw [hn,Bool.true_and] at hd
   have:=of_decide_eq_false hd
   omega
  have hb:jg s m = .gZ (m.prog[m.aU.length]'hlt):=by
   unfold jg
   rw [h.s.ji,aO (by decide),abr hlt]
  refine ⟨⟨h.s.congr ⟨rfl,rfl⟩,?_,hle,fun _=>hlt⟩,rfl,?_⟩
  ·show qh (jg s m)
   rw [hb];trivial
  ·unfold zq
   show (if dR (jg s m)=true then _ else _)+1<=_
   rw [hb,aO (fun e=>by cases e),aV hn]
   show (m.prog.length - m.aU.length - 1)*(s.H.ww+27)+(s.H.ww+25)+1<=_
   have e:m.prog.length - m.aU.length=(m.prog.length - m.aU.length - 1)+1:=by omega
   generalize m.prog.length - m.aU.length - 1=q at *
   rw [e,Nat.add_mul]
   omega
 ·rw [aO hn] at hp ⊢
  have hn':dR m.next=false:=by simpa using hn
  have hlt:=h.lt hn'
  have uV:qV N s { m with aY:=m.aY+1 }:=⟨ok.bK,ok.dA,ok.gU,ok.aU,ok.q,ok.rl⟩
  have r:=E5 (m:={ m with aY:=m.aY+1 }) (h.s.congr ⟨rfl,rfl⟩) m.next ok.nx h.nx hn'
  have rk:=zT uV m.next ok.nx
  have ep:(stepM s { m with aY:=m.aY+1 } m.next).m.prog=m.prog:=rk.prog
  generalize stepM s { m with aY:=m.aY+1 } m.next=R at *
  obtain ⟨rs,rn,rw',rl,rr⟩:=r
  simp only at hp ⊢
  by_cases hr:dR R.next=true
  ·rw [aV hr] at hp ⊢
   rw [hr,aV rfl] at rr
   simp only at rr
   have er:(MS.most { R.m with next := .nil }).aU=R.m.aU/\(MS.most { R.m with next := .nil }).prog=R.m.prog/\(MS.most { R.m with next := .nil }).next = .nil/\(MS.most { R.m with next := .nil }).id=R.m.id/\(MS.most { R.m with next := .nil }).gu=R.m.gu:=by
    unfold MS.most
    split<;>exact ⟨rfl,rfl,rfl,rfl,rfl⟩
   generalize MS.most { R.m with next := .nil }=M at *
   obtain ⟨e1,e2,e3,e4,e5⟩:=er
   refine ⟨⟨rs.congr ⟨e4,e5⟩,by rw [e3];trivial,by rw [e1,e2,ep,rr];omega,fun hf=>by rw [e3] at hf;cases hf⟩,rw',?_⟩
   unfold zq
   rw [e3,aV (by decide),aO hn,e1,e2,ep,rr]
   have hc:=E8 (W:=s.H.ww) m.next ok.nx h.nx hn'
   have e:m.prog.length - (m.aU.length+1)=m.prog.length - m.aU.length - 1:=by omega
   rw [e];omega
  ·rw [aO hr] at hp ⊢
   have hr':dR R.next=false:=by simpa using hr
   rw [hr',aO (by decide)] at rr
   simp only at rr
   refine ⟨⟨rs.congr ⟨rfl,rfl⟩,rn,?_,fun _=>?_⟩,rw',?_⟩
   ·show R.m.aU.length<=R.m.prog.length
    rw [rr,ep];exact hle
   ·show R.m.aU.length<R.m.prog.length
    rw [rr,ep];exact hlt
   ·unfold zq
    show (if dR R.next=true then _ else (R.m.prog.length - R.m.aU.length - 1)*_+mg _ R.next)+1<=_
    rw [aO hr,aO hn,rr,ep]
    omega
theorem BG.first {c:aS} {id:Nat} {prog:List bQ} (hp:s.B.ji id=false) (hq:∀ k,s.Q.rw k=[]) (hw:16<=s.H.ww):BG s (MS.aW c id prog) :=
 ⟨⟨hp,rfl,hq,hw⟩,trivial,Nat.zero_le _,fun h=>by cases h⟩
end
end
end Go.Proofs.YtobfpmijbfgmeabGreatDoor
