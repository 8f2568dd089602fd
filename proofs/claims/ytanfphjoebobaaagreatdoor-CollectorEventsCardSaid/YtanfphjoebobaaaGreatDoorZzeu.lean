/- Parts of the walk. No conditions. -/
import Derived.Test.YtanfphjoebobaaaGreatDoorZzes
import Derived.Test.YtanfphjoebobaaaGreatDoorZzet
namespace Go.Proofs.YtanfphjoebobaaaGreatDoor
open _root_.Go.Proofs.Tryz hiding prog
open _root_.Go.Proofs.Tryz renaming prog->ay
set_option maxRecDepth 100000
set_option maxHeartbeats 8000000
section
attribute [local go_sem] Oper.semAt_some
open Go.RowKit
section
variable {o:Ow} {w w':World} {G:Geo} {g:MG} {s:Sh} {m:MS} {nv:Value} {ev:Option Ev}
theorem Jc {c:Nat}:∀ l:List Nat,En (jQ c l)=true
 | []=>rfl
 | _::l=>IW (Jc l)
structure Jd (o:Ow) (w:World) (N M Nt b st want:Nat) (regs:List Nat) (j:Nat) (W:World):Prop where
 keep:Keep none_ w W
 mb:aA W b [aB M] 56
 big:N<=W.heap.size
 st:∃ fn caps,aA W st [.func (.func fn) #[] caps] 88/\dw o W Nt M (jQ want (regs.drop (regs.length - j))) (.func (.func fn) #[] caps)
theorem Jd.own {N M Nt b st want:Nat} {regs:List Nat} {B:Nat} (hB:w.heap.size<=B):OwnFrom B (Jd o w N M Nt b st want regs):=by
 rintro j W W' row ⟨h1,h2,hN,fn,caps,h3,h4⟩ hg hr
 refine ⟨rJ (β:=Nat) hB j W W' row h1 hg hr,jE (β:=Nat) (cs:=fun _=>_) j W W' row h2 hg hr,Nat.le_trans hN hg.size,fn,caps,jE (β:=Nat) (cs:=fun _=>_) j W W' row h3 hg hr,?_⟩
 exact h4.gen (fun b cs T h5 h6=>⟨h5,jE (β:=Nat) (cs:=fun _=>cs) j W W' row h6 hg hr⟩)
theorem MJ (h:aN o w G g s m ev nv):Calls ay 91 #[aj g.M,ah 3] w fun e w'=>∃ fn caps,e = .returned (.func (.func fn) #[] caps)/\dw o w' g.Nt g.M (jQ m.want m.regs) (.func (.func fn) #[] caps)/\Keep none_ w w':=by
 obtain ⟨W1,hW1⟩:∃ W1,W1=w.alloc (.cells #[aB g.M] 56):=⟨_,rfl⟩
 have k1:Keep none_ w W1:=by rw [hW1];exact (Keep.refl _ _).alloc _
 have hb1:aA W1 w.heap.size [aB g.M] 56:=by rw [hW1];exact aA.new w _ _
 have ho:o w.heap.size=0:=h.sh.fC _ (Nat.le_refl _)
 have HL:=au ((AZ (Nt:=g.Nt) (h.sh.fC.keep k1) 3 133 #[aj w.heap.size] (by unfold rQ;rw [if_neg (by decide),if_neg (by decide),if_pos rfl];exact ⟨[w.heap.size],rfl,_,_,rfl,ho,hb1,rfl⟩) w.heap.size ho hb1))
 have X7:Hid (∀ W,Keep none_ w W->W.cell? ⟨g.M,11,none⟩=some (aj g.Nt)/\W.cell? ⟨g.M,14,none⟩=some (ah (m.want:Int))/\W.cell? ⟨g.M,9,none⟩=some (.slice (some ⟨g.X,0,none⟩) m.regs.length m.regs.length)/\aA W g.X (aG m.regs) 3/\gX o W):=fun W hW=>⟨(h.still hW).c11,(h.still hW).c14,(h.still hW).c9,(h.still hW).regs,(h.still hW).sh.fC⟩
 have hr64:=h.rle
 have Qi:Hid (g.X<w.heap.size):=h.regs.lt
 have HW1:=au hW1
 have hmf:=jc
 have aJ:=au k1
 have HB1:=au hb1
 generalize m.want=mw at *
 generalize m.regs=regs at *
 clear h hW1 k1 hb1 ho
 refine (callsIn_wide (n:=9)).1 ?_
 refine callsIn_of_wp_marks func91 rfl trivial ?_ rfl
 refine wpIn_wide.2 ?_
 simp only [ntmps91,List.size_toArray,List.length_cons,List.length_nil,Nat.reduceAdd,Nat.reduceSub,Array.replicate_succ,Array.replicate_zero,List.push_toArray,List.append_toArray,List.nil_append,List.cons_append]
 go_wp2_with fail
 rw [<- HW1.out]
 refine HL.out.mono ?_
 rintro e w2 ⟨fn,caps,rfl,h2,k2⟩
 obtain ⟨W3,hW3⟩:∃ W3,W3=w2.alloc (.cells #[.func (.func fn) #[] caps] 88):=⟨_,rfl⟩
 have k3:Keep none_ w2 W3:=by rw [hW3];exact (Keep.refl _ _).alloc _
 have hst:aA W3 w2.heap.size [.func (.func fn) #[] caps] 88:=by rw [hW3];exact aA.new w2 _ _
 have e3:W3.heap.size=w2.heap.size+1:=by rw [hW3];simp
 have kw2:Keep none_ w w2:=aJ.out.trans k2
 have kw3:Keep none_ w W3:=kw2.trans k3
 obtain ⟨f11,f14,f9,fX,fF⟩:=X7.out W3 kw3
 have fb:=(k2.trans k3).blk HB1.out (fun f=>f)
 have cb:W3.cell? ⟨w.heap.size,0,none⟩=some (aj g.M):=fb.cell 0 rfl
 have cbx:∀ x,(w2.alloc x).cell? ⟨w.heap.size,0,none⟩=some (aj g.M):=fun x=>((k2.blk HB1.out (fun f=>f)).alloc x).cell 0 rfl
 have f9x:∀ x,(w2.alloc x).cell? ⟨g.M,9,none⟩=some (.slice (some ⟨g.X,0,none⟩) regs.length regs.length):=fun x=>(X7.out _ (kw2.trans ((Keep.refl _ _).alloc x))).2.2.1
 obtain ⟨o2,ho2⟩:∃ o2,o2=o.put w2.heap.size 99:=⟨_,rfl⟩
 have hext:aQ w2 o o2:=by rw [ho2];exact Ow.jU (.inl (Nat.le_refl _))
 have hst2:o2 w2.heap.size=99:=by rw [ho2];exact Ow.lM _ _ _
 have hfut2:gX o2 W3:=by rw [ho2];exact Ow.nJ fF (Nat.le_refl _) (by omega)
 have acN:Hid (∀ W d v,dw o2 W g.Nt g.M d v->dw o W g.Nt g.M d v):=fun W d v hd=>hd.gen (fun b cs T h5 h6=>⟨by rw [ho2] at h5;unfold Ow.put at h5;split at h5<;>first|exact h5|omega,h6⟩)
 obtain ⟨W4,iZ⟩:∃ W4,W4=W3.alloc (.cells #[.slice (some ⟨g.X,0,none⟩) regs.length regs.length] 32):=⟨_,rfl⟩
 have k4:Keep none_ W3 W4:=by rw [iZ];exact (Keep.refl _ _).alloc _
 have hbx:aA W4 W3.heap.size [.slice (some ⟨g.X,0,none⟩) regs.length regs.length] 32:=by rw [iZ];exact aA.new W3 _ _
 have e4:W4.heap.size=W3.heap.size+1:=by rw [iZ];simp
 have GU:Hid (D7 Fence.wide 8 ay 170 #[aj W3.heap.size] (pF regs) zl (qN W3.heap.size g.X) W4):=X4 regs W3.heap.size g.X hr64 8 W4 hbx (k4.blk fX (fun f=>f))
 have HI0:Hid (Jd o2 w W4.heap.size g.M g.Nt w.heap.size w2.heap.size mw regs 0 W4):=⟨kw3.trans k4,k4.blk fb (fun f=>f),Nat.le_refl _,fn,caps,k4.blk hst (fun f=>f),by
  rw [Nat.sub_zero,List.drop_length]
  exact (((dw.ext hext h2).still k3).still k4)⟩
 have uY:Hid (∀ i,qN W3.heap.size g.X i->i<W4.heap.size/\i≠w2.heap.size):=by
  have h5:=kw2.size
  rintro i (rfl|rfl)
  ·exact ⟨by omega,by omega⟩
  ·have:=Qi.out;exact ⟨by omega,by omega⟩
 have xE:Hid (w.heap.size<w2.heap.size/\w2.heap.size<W4.heap.size):=by
  have h5:=k2.size
  have h6:W1.heap.size=w.heap.size+1:=by rw [HW1.out];simp
  exact ⟨by omega,by omega⟩
 have HF2:Hid (∀ W,W3.heap.size<=W.heap.size->gX o2 W):=fun W hW=>hfut2.later hW
 have AY:=au hst2
 have HW3:=au hW3
 have Y6:=au iZ
 have MK:=au e4
 clear h2 k2 k3 hst e3 kw2 kw3 f11 f14 fX fF fb ho2 hext hst2 hfut2 k4 hbx e4 hW3 iZ HL aJ HB1
 go_wp2_with fail
 rw [<- HW3.out]
 refine (I8 _ _ _ _).mono ?_
 rintro e w4 ⟨rfl,hw4⟩
 rw [<- Y6.out] at hw4
 subst hw4
 clear cb f9 cbx f9x
 go_wp2_with fail
 refine wpIn_wide (n:=9) |>.1 ?_
 refine GL rfl (by decide) (gf:=170) (lb:=#[aj W3.heap.size]) rfl trivial (fun args w=>by simp [callFunc,func170,go_sem];rfl) (all:=pF regs) (Enc:=zl) (G:=qN W3.heap.size g.X)
  GU.out ?hG ?hps
  (fun j W=>Jd o2 w w4.heap.size g.M g.Nt w.heap.size w2.heap.size mw regs j W)
  (fun _ _ _=>False)
  ?hI ?hIx ?h0 ?round ?done ?stop
 case hI=>exact Jd.own (by have:=xE.out;omega)
 case hIx=>exact fun c s W W' row h hg hr=>h
 case h0=>exact HI0.out
 case hG=>exact fun i hi=>(uY.out i hi).1
 case hps =>
  rintro W x args h
  rw [h];rfl
 case stop=>exact fun D c k W hD hk h=>h.elim
 case round =>
  rintro l j x args W hx henc hI
  have hj:j<regs.length:=by
   have h:=(List.getElem?_eq_some_iff.1 hx).1
   rwa [qY] at h
  rw [zD hj] at hx
  injection hx with hx
  subst hx
  obtain ⟨x,hx⟩:∃ x,x=regs.getD (regs.length - 1 - j) 0:=⟨_,rfl⟩
  obtain ⟨y,hy⟩:∃ y:Nat,y=regs.length - 1 - j:=⟨_,rfl⟩
  obtain rfl:args=#[ah (y:Int),ah (x:Int)]:=by rw [hx,hy];exact henc
  have HX:=au hx
  clear hx hy henc
  have HI:=au hI
  clear hI
  gi_wp2_with fail
  refine ⟨fun W=>Jd o2 w w4.heap.size g.M g.Nt w.heap.size w2.heap.size mw regs j W,KeepsFrom.refl _ _,Holds.refl _ _,HI.out,(fun _ W' W'' row h hg hr=>Jd.own (by have:=xE.out;omega) j W' W'' row h hg hr),?_⟩
  clear HI
  rintro W2 hI
  have Dp:Hid (w4.heap.size<=W2.heap.size):=hI.big
  obtain ⟨q11,q14,-,-,-⟩:=X7.out W2 hI.keep
  have qb:W2.cell? ⟨w.heap.size,0,none⟩=some (aj g.M):=hI.mb.cell 0 rfl
  obtain ⟨fn1,caps1,hs1,hc1⟩:=hI.st
  have qs:=hs1.cell 0 (v := .func (.func fn1) #[] caps1) rfl
  have fs:=hs1.free 0
  have hkd:Keep none_ W2 W2.drew:=(Keep.refl none_ W2).drew
  have hx:=HX.out
  have hsc:jQ mw (regs.drop (regs.length - (j+1)))=kD x mw (jQ mw (regs.drop (regs.length - j))):=by
   have hq:regs.length - (j+1)<regs.length:=by omega
   rw [List.drop_eq_getElem_cons hq]
   have e1:regs.length - (j+1)+1=regs.length - j:=by omega
   have e2:regs[regs.length - (j+1)]=x:=by
    rw [hx,List.getD_eq_getElem?_getD,show regs.length - 1 - j=regs.length - (j+1) by omega,List.getElem?_eq_getElem hq];rfl
   rw [e1,e2];rfl
  have HN:Hid (Calls ay 135 #[aj g.Nt,ah (x:Int),ah (mw:Int),.func (.func fn1) #[] caps1] W2.drew fun e w3=>∃ fn caps,e = .returned (.func (.func fn) #[] caps)/\w3.frozen? ⟨w2.heap.size,0,none⟩=false/\w3.cell? ⟨w2.heap.size,0,none⟩=some (.func (.func fn1) #[] caps1) /\
   Jd o2 w w4.heap.size g.M g.Nt w.heap.size w2.heap.size mw regs (j+1) (w3.setCell ⟨w2.heap.size,0,none⟩ (.func (.func fn) #[] caps))/\KeepsFrom w4.heap.size W2 (w3.setCell ⟨w2.heap.size,0,none⟩ (.func (.func fn) #[] caps))/\Holds (qN W3.heap.size g.X) W2 (w3.setCell ⟨w2.heap.size,0,none⟩ (.func (.func fn) #[] caps))):=by
   refine (RN (HF2.out W2.drew (by have:=MK.out;have:=Dp.out;have:=hkd.size;omega)) x mw (jQ mw (regs.drop (regs.length - j))) _ (hc1.still hkd) (Jc _)).mono ?_
   rintro e w3 ⟨fn,caps,rfl,h5,k5⟩
   have k6:Keep none_ W2 w3:=hkd.trans k5
   have hs3:=k6.blk hs1 (fun f=>f)
   have kp:Keep (only w2.heap.size) w3 (w3.setCell ⟨w2.heap.size,0,none⟩ (.func (.func fn) #[] caps)):=(Keep.refl _ _).put 0 _
   have h01:=xE.out
   refine ⟨fn,caps,rfl,hs3.free 0,hs3.cell 0 rfl,⟨?_,?_,?_,fn,caps,hs3.set 0 _,?_⟩,?_,?_⟩
   ·exact (hI.keep.trans k6).eP (by omega) _ _
   ·exact kp.blk (k6.blk hI.mb (fun f=>f)) (fun e=>by unfold only at e;omega)
   ·have h7:=hI.big;have h8:=k6.size;simp;omega
   ·rw [hsc]
    exact h5.keep kp (fun b hb e=>by unfold only at e;rw [e,AY.out] at hb;cases hb)
   ·exact (KeepsFrom.rH k6).trans ((KeepsOthers.setCell _ _ _).from _)
   ·refine (Holds.rH k6 (fun i hi=>⟨Nat.lt_of_lt_of_le (uY.out i hi).1 Dp.out,fun f=>f⟩)).trans ⟨by simp,fun i hi=>?_⟩
    rw [Below.heap_setCell _ _ _ _ (by simp;exact (uY.out i hi).2)]
  clear hsc hx hI hs1 hc1 hkd
  gi_wp2_with fail
  refine yD 10 (by kernel_rfl) (by kernel_rfl) (by kernel_rfl) ?_
  change wpStill _ _ (World.drew _) _ _ _
  simp only [List.take_succ_cons,List.take_zero,List.drop_succ_cons,List.drop_zero]
  repeat still_step
  refine wpStill_nil ?_
  change wpListIn _ _ _ _ _ _ _ W2.drew
  gi_wp2_with fail
  refine ⟨trivial,CallsIn.mono (CallsIn.inRound l (callsIn_wide.2 HN.out)) ?_⟩
  rintro e w3 ⟨fn3,caps3,rfl,hf3,hc3,hend⟩
  have fD:=au hend
  clear hend HN qs fs qb q11 q14
  gi_wp2_with fail
  exact ⟨fD.out.2.1,fD.out.2.2,fD.out.1⟩
 case done =>
  rintro D W hD hI Dq
  rw [qY] at hI
  obtain ⟨fn1,caps1,hs1,hc1⟩:=hI.st
  have cO:=hs1.cell 0 (v := .func (.func fn1) #[] caps1) rfl
  have Uz:=hI.keep.takeDeferred (D:=D) (by have h1:=xE.out;omega) (.deferred none)
  have yt:Hid (dw o (W.putObj D (.deferred none)) g.Nt g.M (jQ mw regs) (.func (.func fn1) #[] caps1)):=by
   rw [Nat.sub_self,List.drop_zero] at hc1
   refine acN.out _ _ _ (hc1.gen (fun b cs T h5 h6=>⟨h5,h6.putObj Dq rfl⟩))
  clear hI hs1 hc1
  go_wp2_with fail
  refine ⟨by simp,.inl ⟨_,_,rfl,run_takeDeferred Dq,?_⟩⟩
  refine ⟨.func (.func fn1) #[] caps1,by simp [results,Tryz.f91,go_sem],fn1,caps1,rfl,yt.out,Uz⟩
end
def CV (m:MS) (k:Int):MD:=if k=3 then jQ m.want m.regs else if k=5 then m.kE m.want (.once 5) else .once k
section
variable {o:Ow} {w w':World} {G:Geo} {g:MG} {s:Sh} {m:MS} {nv:Value} {ev:Option Ev}
theorem O6 (h:aN o w G g s m ev nv) (k:Int):Calls ay 91 #[aj g.M,ah k] w fun e w'=>∃ fn caps,e = .returned (.func (.func fn) #[] caps)/\dw o w' g.Nt g.M (CV m k) (.func (.func fn) #[] caps)/\Keep none_ w w':=by
 unfold CV
 by_cases h3:k=3
 ·subst h3;rw [if_pos rfl];exact MJ h
 rw [if_neg h3]
 by_cases h5:k=5
 ·subst h5;rw [if_pos rfl];exact MH h
 rw [if_neg h5]
 exact MF h.sh.fC k ⟨h3,h5⟩
theorem O7 (h:s.B.pend m.id=true):dA s m=CV m s.B.kind:=by
 unfold dA CV
 rw [if_pos h]
theorem aN.Ku (h:aN o w G g s m ev nv):∃ a c,w.cell? ⟨g.M,15,none⟩=some (.slice a m.prog.length c)/\m.prog.length<=1000/\∀ i op,m.prog[i]?=some op->∃ b off,a=some ⟨b,off,none⟩/\∀ j u,op.cells[j]?=some u->w.cell? ⟨b,off+i*4+j,none⟩=some u:=by
 obtain ⟨pv,rv,h1,⟨a,c,rfl,h2,h3⟩,_⟩:=h.blk
 refine ⟨a,c,h1.cell 15 rfl,h2,fun i op hi=>?_⟩
 obtain ⟨b,off,cs,e1,_,e3,e4⟩:=h3 (by have:=(List.getElem?_eq_some_iff.1 hi).1;omega)
 exact ⟨b,off,e1,fun j u hj=>e3.cell _ (e4 i op hi j u hj)⟩
theorem aN.begin0 (h:aN o w G g s m none nv) (p:Bool) {b:Nat} (hb:aA w b [aB g.M] 56) (ho:o b=0):∀ W2,W2=w.setCell ⟨g.M,22,none⟩ (.bool p) ->
 aN o W2 G g s { m with ans:=p } none nv/\Keep (In o [20+m.id]) w W2/\aA W2 b [aB g.M] 56:=by
 rintro W2 rfl
 obtain ⟨h3,k3⟩:=h.put 22 (.bool p) { m with ans:=p } none nv (fun pv rv=>rfl) ⟨rfl,rfl,rfl,rfl,rfl,rfl⟩
 exact ⟨h3,k3,hb.aH k3 ho (by simp<;>omega)⟩
def yE (o:Ow) (w:World) (G:Geo) (g:MG) (s:Sh) (m:MS) (nv:Value) (p:Bool):Ending->World->Prop:=fun e w'=>∃ v,e = .returned v/\aN o w' G g s { m with ans:=p } none nv/\dw o w' g.Nt g.M (dA s m) v/\Keep (In o [20+m.id]) w w'
theorem Sv (h:aN o w G g s m none nv) (hp:s.B.pend m.id=true):Calls ay 48 #[aj g.M] w (yE o w G g s m nv true):=by
 obtain ⟨W1,hW1⟩:∃ W1,W1=w.alloc (.cells #[aB g.M] 56):=⟨_,rfl⟩
 have k1:Keep none_ w W1:=by rw [hW1];exact (Keep.refl _ _).alloc _
 have hb1:aA W1 w.heap.size [aB g.M] 56:=by rw [hW1];exact aA.new w _ _
 have ho:o w.heap.size=0:=h.sh.fC _ (Nat.le_refl _)
 have h1:=h.still k1
 have c0:W1.cell? ⟨w.heap.size,0,none⟩=some (aj g.M):=hb1.cell 0 rfl
 have c1:=h1.m0
 have c2:=h1.s0.2.1
 have c3:=h1.c8
 have sQ:Hid (Keep none_ W1 W1.drew):=(Keep.refl none_ W1).drew
 have HP:=au (uO (p:=true) (k:=s.B.pq m.id) (h1.still sQ.out).sh.board hp rfl)
 have zG:Hid (∀ W,Keep none_ W1 W->W.cell? ⟨w.heap.size,0,none⟩=some (aj g.M)/\W.frozen? ⟨g.M,22,none⟩=false/\W.cell? ⟨g.M,22,none⟩=some (.bool m.ans) /\
  ∀ W2,W2=W.setCell ⟨g.M,22,none⟩ (.bool true)->W2.cell? ⟨w.heap.size,0,none⟩=some (aj g.M)/\(∃ a c,W2.cell? ⟨g.M,16,none⟩=some (.slice a m.res.length c)) /\
   Hid (Calls ay 91 #[aj g.M,ah (s.B.pq m.id)] W2 fun e w'=>∃ fn caps,e = .returned (.func (.func fn) #[] caps)/\Hid (yE o w G g s m nv true (.returned (.func (.func fn) #[] caps)) w'))):=fun W hW=>by
  have h2:=h1.still hW
  have hb2:=hW.blk hb1 (fun f=>f)
  refine ⟨hb2.cell 0 rfl,h2.free 22,h2.cell 22 _ (fun _ _=>rfl),fun W2 hW2=>?_⟩
  obtain ⟨h3,k3,hb3⟩:=h2.begin0 true hb2 ho W2 hW2
  obtain ⟨rv,er,_,ra,rc,FK⟩:=h3.G5
  refine ⟨hb3.cell 0 rfl,⟨ra,rc,by rw [er,FK]⟩,?_⟩
  have ek:s.B.pq m.id=s.B.kind:=by unfold Bd.pq;rw [if_pos hp]
  rw [ek]
  refine (O6 h3 s.B.kind).mono ?_
  rintro e w' ⟨fn,caps,rfl,h4,k4⟩
  refine ⟨fn,caps,rfl,_,rfl,h3.still k4,?_,(k1.aS.trans hW.aS).trans (k3.trans k4.aS)⟩
  rw [O7 hp];exact h4
 have HW1:=au hW1
 generalize s.B.pq m.id=kd at *
 generalize m.ans=an at *
 generalize m.res.length=rl at *
 clear h h1 hW1 k1 hb1 ho hp
 generalize yE o w G g s m nv true=PO at *
 go_enter func48,ntmps48
 go_wp2_with fail
 rw [<- HW1.out]
 refine aI 11 rfl (by kernel_rfl) (by kernel_rfl) (fun K hK=>?_)
 change wpStill _ _ (World.drew _) _ _ _
 simp only [List.take_succ_cons,List.take_zero,List.drop_succ_cons,List.drop_zero] at hK ⊢
 repeat still_step
 refine wpStill_nil ?_
 change ite _ (Oper.wp _ _ _ _ _ _) _
 go_simp
 refine HP.out.mono ?_
 rintro e w2 ⟨rfl,hw2⟩
 refine hK _ _ ?_
 clear hK K
 obtain ⟨d0,d1,d2,hs⟩:=zG.out w2 (by rw [<- hw2];exact sQ.out)
 obtain ⟨W2,hW2⟩:∃ W2,W2=w2.setCell ⟨g.M,22,none⟩ (.bool true):=⟨_,rfl⟩
 obtain ⟨e0,⟨ra,rc,e1⟩,HE⟩:=hs W2 hW2
 have HW2:=au hW2
 rw [hW2] at e0 e1
 clear c0 c1 c2 c3 HP hs hW2 hw2 zG sQ
 repeat still_step
 refine wpStill_nil ?_
 go_wp2_with fail
 rw [<- HW2.out]
 refine HE.out.mono ?_
 rintro e w3 ⟨fn,caps,rfl,HR⟩
 go_wp2_with fail
 exact HR.out
theorem Sz (h:aN o w G g s m none nv) (hp:s.B.pend m.id=false) (hlt:¬ m.res.length<m.prog.length):Calls ay 48 #[aj g.M] w (yE o w G g s m nv false):=by
 obtain ⟨W1,hW1⟩:∃ W1,W1=w.alloc (.cells #[aB g.M] 56):=⟨_,rfl⟩
 have k1:Keep none_ w W1:=by rw [hW1];exact (Keep.refl _ _).alloc _
 have hb1:aA W1 w.heap.size [aB g.M] 56:=by rw [hW1];exact aA.new w _ _
 have ho:o w.heap.size=0:=h.sh.fC _ (Nat.le_refl _)
 have h1:=h.still k1
 have c0:W1.cell? ⟨w.heap.size,0,none⟩=some (aj g.M):=hb1.cell 0 rfl
 have c1:=h1.m0
 have c2:=h1.s0.2.1
 have c3:=h1.c8
 have sQ:Hid (Keep none_ W1 W1.drew):=(Keep.refl none_ W1).drew
 have HP:=au (uO (p:=false) (k:=s.B.pq m.id) (h1.still sQ.out).sh.board hp rfl)
 have zG:Hid (∀ W,Keep none_ W1 W->W.cell? ⟨w.heap.size,0,none⟩=some (aj g.M)/\W.frozen? ⟨g.M,22,none⟩=false/\W.cell? ⟨g.M,22,none⟩=some (.bool m.ans) /\
  ∀ W2,W2=W.setCell ⟨g.M,22,none⟩ (.bool false)->W2.cell? ⟨w.heap.size,0,none⟩=some (aj g.M)/\(∃ a c,W2.cell? ⟨g.M,16,none⟩=some (.slice a m.res.length c))/\(∃ a c,W2.cell? ⟨g.M,15,none⟩=some (.slice a m.prog.length c)) /\
   Hid (yE o w G g s m nv false (.returned .nilFunc) W2)):=fun W hW=>by
  have h2:=h1.still hW
  have hb2:=hW.blk hb1 (fun f=>f)
  refine ⟨hb2.cell 0 rfl,h2.free 22,h2.cell 22 _ (fun _ _=>rfl),fun W2 hW2=>?_⟩
  obtain ⟨h3,k3,hb3⟩:=h2.begin0 false hb2 ho W2 hW2
  obtain ⟨rv,er,_,ra,rc,FK⟩:=h3.G5
  obtain ⟨pa,pc,ep,_,_⟩:=h3.Ku
  refine ⟨hb3.cell 0 rfl,⟨ra,rc,by rw [er,FK]⟩,⟨pa,pc,ep⟩,_,rfl,h3,?_,(k1.aS.trans hW.aS).trans k3⟩
  have hbe:dA s m = .nil:=by
   unfold dA
   rw [hp,if_neg (by decide),List.getElem?_eq_none (by omega)]
  rw [hbe];rfl
 have HW1:=au hW1
 have oV:¬ (m.res.length:Int)<(m.prog.length:Int):=by omega
 have aeg:decide ((m.res.length:Int)<(m.prog.length:Int))=false:=decide_eq_false oV
 generalize s.B.pq m.id=kd at *
 generalize m.ans=an at *
 generalize m.res.length=rl at *
 generalize m.prog.length=pl at *
 clear h h1 hW1 k1 hb1 ho hp hlt
 generalize yE o w G g s m nv false=PO at *
 go_enter func48,ntmps48
 go_wp2_with fail
 rw [<- HW1.out]
 refine aI 11 rfl (by kernel_rfl) (by kernel_rfl) (fun K hK=>?_)
 change wpStill _ _ (World.drew _) _ _ _
 simp only [List.take_succ_cons,List.take_zero,List.drop_succ_cons,List.drop_zero] at hK ⊢
 repeat still_step
 refine wpStill_nil ?_
 change ite _ (Oper.wp _ _ _ _ _ _) _
 go_simp
 refine HP.out.mono ?_
 rintro e w2 ⟨rfl,hw2⟩
 refine hK _ _ ?_
 clear hK K
 obtain ⟨d0,d1,d2,hs⟩:=zG.out w2 (by rw [<- hw2];exact sQ.out)
 obtain ⟨W2,hW2⟩:∃ W2,W2=w2.setCell ⟨g.M,22,none⟩ (.bool false):=⟨_,rfl⟩
 obtain ⟨e0,⟨ra,rc,e1⟩,⟨pa,pc,e2⟩,HE⟩:=hs W2 hW2
 rw [hW2] at e0 e1 e2 HE
 clear c0 c1 c2 c3 HP hs hW2 hw2 zG sQ
 repeat still_step
 refine wpStill_nil ?_
 go_wp2_with fail
 exact HE.out
theorem Vr (h:aN o w G g s m none nv) (hp:s.B.pend m.id=false) (hlt:m.res.length<m.prog.length):Calls ay 48 #[aj g.M] w (yE o w G g s m nv false):=by
 obtain ⟨W1,hW1⟩:∃ W1,W1=w.alloc (.cells #[aB g.M] 56):=⟨_,rfl⟩
 have k1:Keep none_ w W1:=by rw [hW1];exact (Keep.refl _ _).alloc _
 have hb1:aA W1 w.heap.size [aB g.M] 56:=by rw [hW1];exact aA.new w _ _
 have ho:o w.heap.size=0:=h.sh.fC _ (Nat.le_refl _)
 have h1:=h.still k1
 have c0:W1.cell? ⟨w.heap.size,0,none⟩=some (aj g.M):=hb1.cell 0 rfl
 have c1:=h1.m0
 have c2:=h1.s0.2.1
 have c3:=h1.c8
 have sQ:Hid (Keep none_ W1 W1.drew):=(Keep.refl none_ W1).drew
 have HP:=au (uO (p:=false) (k:=s.B.pq m.id) (h1.still sQ.out).sh.board hp rfl)
 obtain ⟨op,eop⟩:∃ op,m.prog[m.res.length]?=some op:=⟨_,List.getElem?_eq_getElem hlt⟩
 have zG:Hid (∀ W,Keep none_ W1 W->W.cell? ⟨w.heap.size,0,none⟩=some (aj g.M)/\W.frozen? ⟨g.M,22,none⟩=false/\W.cell? ⟨g.M,22,none⟩=some (.bool m.ans) /\
  ∀ W2,W2=W.setCell ⟨g.M,22,none⟩ (.bool false)->W2.cell? ⟨w.heap.size,0,none⟩=some (aj g.M)/\(∃ a c,W2.cell? ⟨g.M,16,none⟩=some (.slice a m.res.length c)) /\
   (∃ b off c,W2.cell? ⟨g.M,15,none⟩=some (.slice (some ⟨b,off,none⟩) m.prog.length c)/\W2.cell? ⟨b,off+m.res.length*4,none⟩=some (ah op.k)/\W2.cell? ⟨b,off+m.res.length*4+1,none⟩=some (ah op.a)/\W2.cell? ⟨b,off+m.res.length*4+2,none⟩=some (ah op.b)/\W2.cell? ⟨b,off+m.res.length*4+3,none⟩=some (ah op.c)) /\
   Hid (yE o w G g s m nv false (.returned (.func (.func 92) #[] #[aj w.heap.size,aj W2.heap.size])) (W2.alloc (.cells #[ah op.k,ah op.a,ah op.b,ah op.c] 83)))):=fun W hW=>by
  have h2:=h1.still hW
  have hb2:=hW.blk hb1 (fun f=>f)
  refine ⟨hb2.cell 0 rfl,h2.free 22,h2.cell 22 _ (fun _ _=>rfl),fun W2 hW2=>?_⟩
  obtain ⟨h3,k3,hb3⟩:=h2.begin0 false hb2 ho W2 hW2
  obtain ⟨rv,er,_,ra,rc,FK⟩:=h3.G5
  obtain ⟨pa,pc,ep,_,hpo⟩:=h3.Ku
  obtain ⟨pb,off,rfl,hcs⟩:=hpo _ op eop
  have k4:Keep none_ W2 (W2.alloc (.cells op.cells.toArray 83)):=(Keep.refl _ _).alloc _
  refine ⟨hb3.cell 0 rfl,⟨ra,rc,by rw [er,FK]⟩,⟨pb,off,pc,ep,hcs 0 _ rfl,hcs 1 _ rfl,hcs 2 _ rfl,hcs 3 _ rfl⟩,_,rfl,h3.still k4,?_,(k1.aS.trans hW.aS).trans (k3.trans k4.aS)⟩
  have hbe:dA s m = .start op:=by
   unfold dA
   rw [hp,if_neg (by decide),eop]
  rw [hbe]
  exact ⟨[w.heap.size,W2.heap.size],rfl,_,_,rfl,ho,k4.blk hb3 (fun f=>f),_,_,rfl,h3.sh.fC _ (Nat.le_refl _),aA.new W2 op.cells _,rfl⟩
 have HW1:=au hW1
 have hpl:m.prog.length<=1000:=by
  obtain ⟨_,_,_,h9,_⟩:=h.Ku
  exact h9
 have oV:(m.res.length:Int)<(m.prog.length:Int):=by omega
 have aeh:(m.prog.length:Int)<=1000:=by omega
 have hmf:=jc
 obtain ⟨ok,oa,ob,oc⟩:=op
 simp only at zG
 generalize s.B.pq m.id=kd at *
 generalize m.ans=an at *
 generalize yE o w G g s m nv false=PO at *
 generalize hrl:m.res.length=rl at *
 generalize hpl2:m.prog.length=pl at *
 clear h h1 hW1 k1 hb1 ho hp eop hrl hpl2
 go_enter func48,ntmps48
 go_wp2_with fail
 rw [<- HW1.out]
 refine aI 11 rfl (by kernel_rfl) (by kernel_rfl) (fun K hK=>?_)
 change wpStill _ _ (World.drew _) _ _ _
 simp only [List.take_succ_cons,List.take_zero,List.drop_succ_cons,List.drop_zero] at hK ⊢
 repeat still_step
 refine wpStill_nil ?_
 change ite _ (Oper.wp _ _ _ _ _ _) _
 go_simp
 refine HP.out.mono ?_
 rintro e w2 ⟨rfl,hw2⟩
 refine hK _ _ ?_
 clear hK K
 obtain ⟨d0,d1,d2,hs⟩:=zG.out w2 (by rw [<- hw2];exact sQ.out)
 obtain ⟨W2,hW2⟩:∃ W2,W2=w2.setCell ⟨g.M,22,none⟩ (.bool false):=⟨_,rfl⟩
 obtain ⟨e0,⟨ra,rc,e1⟩,⟨pb,off,pc,e2,y0,y1,y2,y3⟩,HE⟩:=hs W2 hW2
 rw [hW2] at e0 e1 e2 HE y0 y1 y2 y3
 clear c0 c1 c2 c3 HP hs hW2 hw2 zG sQ
 repeat still_step
 refine wpStill_nil ?_
 go_wp2_with fail
 have h9:=HE.out
 rw [show (w2.setCell ⟨g.M,22,none⟩ (.bool false)).heap.size=w2.heap.size from by simp] at h9
 exact h9
theorem SA (h:aN o w G g s m none nv):Calls ay 48 #[aj g.M] w (yE o w G g s m nv (s.B.pend m.id)):=by
 cases hp:s.B.pend m.id with
 | true=>exact Sv h hp
 | false =>
   by_cases hlt:m.res.length<m.prog.length
   ·exact Vr h hp hlt
   ·exact Sz h hp hlt
end
section
variable {o:Ow} {w w':World} {G:Geo} {g:MG} {s:Sh} {m:MS} {nv:Value} {ev:Option Ev}
theorem Vs (h:aN o w G g s m ev nv):Calls ay 58 #[aj g.M] w fun e w'=>∃ v,e = .returned v/\w'.ownsRow w.heap.size 3 1 v m.regs.length (aG m.regs)/\Keep none_ w w':=by
 have c:=h.c9
 have hle:=h.rle
 have HC:=au (rP (some ⟨g.X,0,none⟩) m.regs.length m.regs.length (aG m.regs) w ⟨by simp [aG],fun _=>⟨g.X,0,rfl,fun j u hj=>by
  rw [Nat.zero_add]
  exact h.regs.cell j hj⟩⟩ (fun e=>by cases e) (by omega) (fun u hu=>by obtain ⟨z,_,rfl⟩:=List.mem_map.1 hu;rfl))
 generalize aG m.regs=vs at *
 generalize m.regs.length=n at *
 clear h
 go_enter func58,ntmps58
 go_wp2_with fail
 refine HC.out.mono ?_
 rintro e w1 ⟨v,rfl,h1,k1⟩
 have HE:=au (And.intro h1 k1)
 clear h1 k1 HC
 go_wp2_with fail
 go_ret
 exact ⟨_,rfl,HE.out.1,HE.out.2⟩
theorem Et (fn:Nat) (caps:Array Value):∀ w,(binOp .neq 88 (.func (.func fn) #[] caps) .nilFunc).run ay w = .ok (.bool true) w:=fun w=>by first|rfl|(simp [binOp,go_sem];done)|(simp [binOp,go_sem];rfl)
theorem CY:∀ w,(binOp .neq 88 .nilFunc .nilFunc).run ay w = .ok (.bool false) w:=fun w=>by first|rfl|(simp [binOp,go_sem];done)|(simp [binOp,go_sem];rfl)
theorem aN.c17 (h:aN o w G g s m ev nv):w.cell? ⟨g.M,17,none⟩=some nv:=h.cell 17 _ (fun _ _=>rfl)
theorem X8 (h:aN o w G g s m ev .nilFunc):Calls ay 78 #[aj g.M] w fun e w'=>e = .returned (.bool false)/\w=w':=by
 have c:=h.c17
 have hn:=CY
 clear h
 go_enter func78,ntmps78
 go_wp2_with fail
 go_ret
 exact ⟨rfl,rfl⟩
theorem Vt {fn:Nat} {caps:Array Value} (h:aN o w G g s m ev (.func (.func fn) #[] caps)):Calls ay 78 #[aj g.M] w fun e w'=>e = .returned (.bool true)/\w=w':=by
 have c:=h.c17
 have hn:=Et fn caps
 clear h
 go_enter func78,ntmps78
 go_wp2_with fail
 go_ret
 exact ⟨rfl,rfl⟩
end
def HS.new (c:aK) (b ww nc:Nat):HS:=⟨c,b,ww,List.replicate (b*ww) 0,List.replicate b 0,[[],[],[],[]],fun _=>false,fun _=>false,List.replicate nc 0⟩
theorem SB (c:aK) (b ww nc:Nat) (h:b*ww<=1048576):bZ (HS.new c b ww nc):=by
 have hrow:∀ k,(HS.new c b ww nc).row k=[]:=fun k=>by
  match k with
  | 0=>rfl
  | 1=>rfl
  | 2=>rfl
  | 3=>rfl
  | n+4=>rfl
 have hz:∀ a,(HS.new c b ww nc).word a=0:=fun a=>by
  unfold HS.word pY HS.new
  split
  ·rw [List.getD_eq_getElem?_getD,List.getElem?_replicate]
   split<;>rfl
  ·rfl
 refine ⟨by simp [HS.new],h,fun x hx=>?_,fun x hx=>?_,rfl,fun k _=>?_,fun k _=>?_,fun k _ a ha=>?_,fun a ha=>?_,fun a _ _ _ => .inl (hz a),fun x hx=>?_,fun a _ _ _=>hz a⟩
 ·rw [List.eq_of_mem_replicate hx];decide
 ·rw [List.eq_of_mem_replicate hx];decide
 ·rw [hrow];trivial
 ·rw [hrow];exact List.nodup_nil
 ·rw [hrow] at ha;cases ha
 ·cases ha
 ·rw [List.eq_of_mem_replicate hx];exact Nat.zero_le _
theorem ML {w:World} {B X n:Nat} (h:fH w B X n (List.replicate ((n+63)/64) 0)):lH w B X n (fun _=>false) :=
 ⟨_,h,fun m=>by unfold jK;rw [P5];simp⟩
def zH (l:List Nat):Nat->Nat:=fun i=>l.getD i 0
theorem Vu {l:List Nat} (hl:l.length=13) (hn:l.Nodup):∀ i j,i<13->j<13->zH l i=zH l j->i=j:=by
 intro i j hi hj e
 unfold zH at e
 rw [List.getD_eq_getElem?_getD,List.getElem?_eq_getElem (by omega),List.getD_eq_getElem?_getD,List.getElem?_eq_getElem (by omega)] at e
 simp only [Option.getD_some] at e
 rcases Nat.lt_trichotomy i j with h|h|h
 ·exact absurd e (List.pairwise_iff_getElem.1 hn i j (by omega) (by omega) h)
 ·exact h
 ·exact absurd e.symm (List.pairwise_iff_getElem.1 hn j i (by omega) (by omega) h)
theorem aae (c:aK) (b ww nc:Nat) (hok:c.ok=true) (hcb:c.b=b) (hcw:c.w=ww) (hcc:c.c=nc) (w:World) (hT:Tabs w) (hS:Sizes w):Calls ay 67 #[.agg c.cells.toArray] w fun e w'=>∃ D,e = .returned (.tuple #[aj (D 0),ah 0])/\aF w' D (HS.new c b ww nc)/\(∀ i,i<13->w.heap.size<=D i)/\Keep none_ w w':=by
 have hn:=lD hok hcb hcw
 have hbd:=fQ hok
 have hnc:nc<=64:=by omega
 have hmk:∀ w:World,(Instr.makeSlice 32 (ah (nc:Int)) (ah (nc:Int))).run ay w = .ok (.slice (some ⟨w.heap.size,0,none⟩) nc nc) (w.alloc (.cells (zeros (ah 0) nc).toArray 3)) :=
  fun w=>run_mk (P:=ay) (by kernel_rfl) Tryz.infoInt rfl (by decide) nc (by omega) _ rfl w
 obtain ⟨W0,hW0⟩:∃ W',W'=w.alloc (.cells c.cells.toArray 23):=⟨_,rfl⟩
 have HK:Hid (Keep none_ w W0):=by rw [hW0];exact (Keep.refl _ _).alloc _
 have HN:=au (ZM c b hok hcb W0 (hT.keep HK.out))
 have HB:=au (show aA W0 w.heap.size c.cells 23 by rw [hW0];exact aA.new w _ _)
 have uV:Hid (W0.heap.size=w.heap.size+1):=by rw [Hid,hW0];simp
 have Qj:Hid (∀ W,Keep none_ w W->Calls ay 108 #[.agg c.cells.toArray] W fun e w'=>e = .returned (ah ((b*ww:Nat):Int))/\Keep none_ W w'):=fun W hW=>vJ hok hcb hcw W (hT.keep hW)
 have vg:Hid (∀ W,Calls ay 109 #[ah ((b*ww:Nat):Int)] W fun e w'=>∃ R X,e = .returned (.tuple #[aj R,ah 0])/\dH w' R X (List.replicate (b*ww) 0)/\W.heap.size<=R/\W.heap.size<=X/\Keep none_ W w'):=fun W=>Xt (b*ww) (by have:=Nat.mul_le_mul hn.1 hn.2.2.1;omega) hn.2.2.2.2 W
 have kP:Hid (∀ W aR aX tR tX,dH W aR aX (List.replicate (b*ww) 0)->dU W tR tX c (List.replicate b 0)->Keep none_ w W->Calls ay 110 #[aj aR,aj tR] W fun e w'=>∃ L iR iX,e = .returned (.tuple #[aj L,ah 0])/\bH w' L iR iX aR tR (b*ww+1) (List.replicate ((b*ww+1+63)/64) 0) [0,0,0,0]/\W.heap.size<=L/\W.heap.size<=iR/\W.heap.size<=iX/\Keep none_ W w'):=fun W aR aX tR tX hA P8 hW =>
  ZQ hA P8 hcb hcw (by simp) (hT.keep hW)
 have gq:Hid (∀ W,Calls ay 111 #[ah (((b*ww:Nat):Int)+1)] W fun e w'=>∃ B X,e = .returned (.tuple #[aj B,ah 0])/\fH w' B X (b*ww+1) (List.replicate ((b*ww+1+63)/64) 0)/\W.heap.size<=B/\W.heap.size<=X/\Keep none_ W w'):=fun W=>by
  have h9:=Ld (b*ww+1) (by omega) W
  rw [show (((b*ww+1:Nat):Nat):Int)=((b*ww:Nat):Int)+1 by omega] at h9
  exact h9
 have abu:=au (SB c b ww nc hn.2.2.2.2)
 have Qk:Hid (Tabs w/\Sizes w):=⟨hT,hS⟩
 have ads:((b*ww:Nat):Int)<=1048576:=by omega
 have hwr:IntKind.i64.wrap (((b*ww:Nat):Int)+1)=((b*ww:Nat):Int)+1:=IntWalk.i64_in _ (by omega)
 obtain ⟨NN,hNN⟩:∃ NN,NN=b*ww:=⟨_,rfl⟩
 have Ah:=au hNN
 rw [<- hNN] at Qj vg kP gq ads hwr
 obtain ⟨c0,c1,c2,c3,c4,c5,c6⟩:=c
 simp only at hcb hcw hcc
 subst hcb
 subst hcw
 subst hcc
 simp only [aK.cells] at *
 clear hT hS hok hn hbd hNN
 go_enter func67,ntmps67
 go_wp2_with fail
 rw [<- hW0]
 clear hW0
 refine HN.out.mono ?_
 rintro e w1 ⟨tR,tX,rfl,ht,t1,t2,hk1⟩
 have HT1:=au ht
 have HG1:Hid (w.heap.size+1<=tR/\w.heap.size+1<=tX/\tR≠tX/\tR<w1.heap.size/\tX<w1.heap.size):=by have h9:=uV.out;exact ⟨by omega,by omega,ht.ne,ht.blk.lt,ht.cls.lt⟩
 have aJ:=au (HK.out.trans hk1)
 have HB1:=au (hk1.blk HB.out (fun f=>f))
 have y0:=HB1.out.cell 0 rfl;have y1:=HB1.out.cell 1 rfl;have y2:=HB1.out.cell 2 rfl;have y3:=HB1.out.cell 3 rfl;have y4:=HB1.out.cell 4 rfl;have y5:=HB1.out.cell 5 rfl;have y6:=HB1.out.cell 6 rfl
 clear ht t1 t2 hk1 HN HK HB
 have abv:=au (Qj.out _ aJ.out)
 go_wp2_with fail
 refine abv.out.mono ?_
 rintro e w2 ⟨rfl,hk2⟩
 have bJ:=au (aJ.out.trans hk2)
 have HT2:=au (HT1.out.still hk2)
 have HB2:=au (hk2.blk HB1.out (fun f=>f))
 have HS2:Hid (w1.heap.size<=w2.heap.size):=hk2.size
 clear hk2 abv Qj HT1 HB1 y0 y1 y2 y3 y4 y5 y6
 go_wp2_with fail
 refine (vg.out _).mono ?_
 rintro e w3 ⟨aR,aX,rfl,ha,a1,a2,hk3⟩
 have gy:=au (bJ.out.trans hk3)
 have HT3:=au (HT2.out.still hk3)
 have HB3:=au (hk3.blk HB2.out (fun f=>f))
 have Lm:=au ha
 have Dp:Hid (w2.heap.size<=aR/\w2.heap.size<=aX/\aR≠aX/\aR<w3.heap.size/\aX<w3.heap.size):=⟨a1,a2,ha.ne,by obtain ⟨_,_,h9⟩:=ha.blk;exact h9.lt,ha.lF.lt⟩
 clear hk3 ha a1 a2 HT2 HB2
 have abw:=au (kP.out _ _ _ _ _ Lm.out HT3.out gy.out)
 go_wp2_with fail
 refine abw.out.mono ?_
 rintro e w4 ⟨L,iR,iX,rfl,hl,l1,l2,l3,hk4⟩
 have mM:=au (gy.out.trans hk4)
 have HT4:=au (HT3.out.still hk4)
 have HB4:=au (hk4.blk HB3.out (fun f=>f))
 have YS:=au (Lm.out.still hk4)
 have HL4:=au hl
 have HG4:Hid (w3.heap.size<=L/\w3.heap.size<=iR/\w3.heap.size<=iX/\L≠iR/\L≠iX/\iR≠iX/\L<w4.heap.size/\iR<w4.heap.size/\iX<w4.heap.size):=⟨l1,l2,l3,hl.ne.1,hl.ne.2,hl.set.ne,hl.lt,by obtain ⟨_,h9⟩:=hl.set.blk;exact h9.lt,by obtain ⟨_,h9,_⟩:=hl.set.lF;exact h9.lt⟩
 clear hk4 hl l1 l2 l3 HT3 HB3 Lm abw kP
 go_wp2_with fail
 refine (gq.out _).mono ?_
 rintro e w5 ⟨bR,bX,rfl,hs,s1,s2,hk5⟩
 have HK5:=au (mM.out.trans hk5)
 have HT5:=au (HT4.out.still hk5)
 have HB5:=au (hk5.blk HB4.out (fun f=>f))
 have HA5:=au (YS.out.still hk5)
 have HL5:=au (HL4.out.still hk5)
 have vw:=au hs
 have HG5:Hid (w4.heap.size<=bR/\w4.heap.size<=bX/\bR≠bX/\bR<w5.heap.size/\bX<w5.heap.size):=⟨s1,s2,hs.ne,by obtain ⟨_,h9⟩:=hs.blk;exact h9.lt,by obtain ⟨_,h9,_⟩:=hs.lF;exact h9.lt⟩
 clear hk5 hs s1 s2 HT4 HB4 YS HL4
 have A8:Hid (∀ W,Keep none_ w5 W->Calls ay 88 #[aj bR] W fun e w'=>∃ B' X',e = .returned (aj B')/\fH w' B' X' (NN+1) (List.replicate ((NN+1+63)/64) 0)/\W.heap.size<=B'/\W.heap.size<=X'/\Keep none_ W w'):=fun W hW=>IB (vw.out.still hW) (by omega)
 have fD:Hid (∀ cR cX cl d0 W,Keep none_ w5 W->fH W cR cX (NN+1) (List.replicate ((NN+1+63)/64) 0)->aA W cl (aG (List.replicate nc 0)) 3->aA W d0 [aj aR,aj tR,aj L,aj bR,aj cR,.slice (some ⟨cl,0,none⟩) nc nc] 101 ->
  w5.heap.size<=cR->w5.heap.size<=cX->w5.heap.size<=cl->w5.heap.size<=d0->cl≠cX ->
  aF W (zH [d0,aR,aX,tR,tX,L,iR,iX,bR,bX,cR,cX,cl]) (HS.new ⟨b,ww,c2,c3,nc,c5,c6⟩ b ww nc)/\∀ i,i<13->w.heap.size<=zH [d0,aR,aX,tR,tX,L,iR,iX,bR,bX,cR,cX,cl] i):=by
  intro cR cX cl d0 W hW hc hcl hd g1 g2 g3 g4 g5
  have q1:=HG1.out;have q2:=HS2.out;have q3:=Dp.out;have q4:=HG4.out;have q5:=HG5.out
  have q6:=hc.ne
  have q7:d0≠cR:=fun e=>by obtain ⟨_,h9⟩:=hc.blk;rw [e] at hd;exact absurd (hd.uniq h9).2 (by decide)
  have q8:d0≠cX:=fun e=>by obtain ⟨_,h9,_⟩:=hc.lF;rw [e] at hd;exact absurd (hd.uniq h9).2 (by decide)
  have q9:d0≠cl:=fun e=>by rw [e] at hd;exact absurd (hd.uniq hcl).2 (by decide)
  have q10:cl≠cR:=fun e=>by obtain ⟨_,h9⟩:=hc.blk;rw [e] at hcl;exact absurd (hcl.uniq h9).2 (by decide)
  have hge:∀ i,i<13->w.heap.size+1<=zH [d0,aR,aX,tR,tX,L,iR,iX,bR,bX,cR,cX,cl] i:=by
   intro i hi
   match i,hi with
   | 0,_=>show _<=d0;omega
   | 1,_=>show _<=aR;omega
   | 2,_=>show _<=aX;omega
   | 3,_=>show _<=tR;omega
   | 4,_=>show _<=tX;omega
   | 5,_=>show _<=L;omega
   | 6,_=>show _<=iR;omega
   | 7,_=>show _<=iX;omega
   | 8,_=>show _<=bR;omega
   | 9,_=>show _<=bX;omega
   | 10,_=>show _<=cR;omega
   | 11,_=>show _<=cX;omega
   | 12,_=>show _<=cl;omega
  have hkW:=HK5.out.trans hW
  have gl:3<w.heap.size/\4<w.heap.size/\2<w.heap.size :=
   ⟨World.block_lt_of_cell? _ _ (Qk.out.1.lim 0 1 rfl),World.block_lt_of_cell? _ _ (Qk.out.1.kind 0 [] rfl),World.block_lt_of_cell? _ _ (Qk.out.2 0 2 rfl)⟩
  refine ⟨⟨Vu rfl ?_,?_,?_,HT5.out.still hW,⟨List.replicate ((NN+1+63)/64) 0,?_,?_⟩,?_,?_,hcl,rfl,rfl,?_,abu.out,Qk.out.1.keep hkW,Qk.out.2.keep hkW,fun i hi=>?_⟩,fun i hi=>by have:=hge i hi;omega⟩
  ·simp only [List.nodup_cons,List.mem_cons,List.not_mem_nil,or_false,not_or,List.nodup_nil,and_true,not_false_eq_true]
   clear hd hcl hc hW hkW hge gl
   refine ⟨⟨?_,?_,?_,?_,?_,?_,?_,?_,?_,?_,?_,?_⟩,⟨?_,?_,?_,?_,?_,?_,?_,?_,?_,?_,?_⟩,⟨?_,?_,?_,?_,?_,?_,?_,?_,?_,?_⟩,⟨?_,?_,?_,?_,?_,?_,?_,?_,?_⟩,⟨?_,?_,?_,?_,?_,?_,?_,?_⟩,⟨?_,?_,?_,?_,?_,?_,?_⟩,⟨?_,?_,?_,?_,?_,?_⟩,⟨?_,?_,?_,?_,?_⟩,⟨?_,?_,?_,?_⟩,⟨?_,?_,?_⟩,⟨?_,?_⟩,?_⟩<;>omega
  ·show aA W d0 _ _
   simpa [HS.new,zH] using hd
  ·show dH W aR aX (List.replicate (b*ww) 0)
   rw [<- Ah.out];exact HA5.out.still hW
  ·show bH W L iR iX aR tR (b*ww+1) _ [0,0,0,0]
   rw [<- Ah.out];exact HL5.out.still hW
  ·intro m
   show jK (b*ww+1) _ _=false
   unfold jK
   rw [P5];simp
  ·show lH W bR bX (b*ww+1) (fun _=>false)
   rw [<- Ah.out];exact ML (vw.out.still hW)
  ·show lH W cR cX (b*ww+1) (fun _=>false)
   rw [<- Ah.out];exact ML hc
  ·show (nc:Int)=((List.replicate nc 0).length:Int)
   simp
  ·have h9:=hge i hi
   exact ⟨by omega,by omega,by omega⟩
 have zI:Hid (∀ W,Keep none_ w5 W->W.cell? ⟨w.heap.size,4,none⟩=some (ah (nc:Int))):=fun W hW=>hW.still (HB5.out.cell 4 rfl)
 have y4:=zI.out w5 (Keep.refl _ _)
 have Y7:=au HK5.out
 clear HK5 HT5 HB5 HA5 HL5 vw HG5 HG4 Dp HS2 HG1 abu Qk mM gy bJ aJ gq vg Ah uV
 go_wp2_with fail
 go_region_held3 (fun w'=>w'.cell? ⟨w.heap.size,4,none⟩=some (ah (nc:Int)))
  (first | exact zI.out _ (Keep.refl _ _) | exact zI.out _ (Keep.refl _ _).drew | exact zI.out _ ((Keep.refl _ _).alloc _) | exact zI.out _ ((Keep.refl _ _).alloc _).drew | exact zI.out _ ((Keep.refl _ _).drew.alloc _) | exact zI.out _ Ai.out | exact zI.out _ (Ai.out.alloc _) | exact zI.out _ ((Ai.out.alloc _).alloc _) | fail "ji")
  ((go_at_call 88
    refine (A8.out _ (by first | exact (Keep.refl _ _).drew | exact ((Keep.refl _ _).alloc _).drew | exact (Keep.refl _ _).drew.alloc _ | fail "jZ")).mono ?_
    rintro e w6 ⟨cR,cX,rfl,hc,g1,g2,hk6⟩
    have Je:=au hc
    have HG6:=au (And.intro g1 g2)
    have adt:=au hk6
    have Ai : Hid (Keep none_ w5 w6) := by first | exact (Keep.refl _ _).drew.trans hk6 | exact ((Keep.refl _ _).alloc _).drew.trans hk6 | exact ((Keep.refl _ _).drew.alloc _).trans hk6 | fail "aea"
    clear hc g1 g2 hk6))
 all_goals
  go_wp2_with fail
  go_ret2
 ·
  have hz:zeros (ah 0) nc=aG (List.replicate nc 0):=by simp [zeros,aG]
  have hs5:=Ai.out.size
  have k7:Keep none_ w6 ((w6.alloc (.cells (zeros (ah 0) nc).toArray 3)).alloc (.cells #[aj aR,aj tR,aj L,aj bR,aj cR,.slice (some ⟨w6.heap.size,0,none⟩) nc nc] 101)):=((Keep.refl _ _).alloc _).alloc _
  have hcl:=(aA.new w6 (zeros (ah 0) nc) 3).alloc (.cells #[aj aR,aj tR,aj L,aj bR,aj cR,.slice (some ⟨w6.heap.size,0,none⟩) nc nc] 101)
  have hd:=aA.new (w6.alloc (.cells (zeros (ah 0) nc).toArray 3)) [aj aR,aj tR,aj L,aj bR,aj cR,.slice (some ⟨w6.heap.size,0,none⟩) nc nc] 101
  rw [World.size_alloc] at hd
  have hlt:cX<w6.heap.size:=by obtain ⟨_,h9,_⟩:=Je.out.lF;exact h9.lt
  have g6:=HG6.out
  have MN:=fD.out cR cX w6.heap.size (w6.heap.size+1) _ (Ai.out.trans k7) (Je.out.still k7) (by rw [<- hz];exact hcl) hd (by first|omega|exact g6.1|(have:=g6.1;simp at this;omega)) (by first|omega|exact g6.2|(have:=g6.2;simp at this;omega)) hs5 (by omega) (by omega)
  exact ⟨_,rfl,MN.1,MN.2,Y7.out.trans (Ai.out.trans k7)⟩
 ·
  have hz:zeros (ah 0) nc=aG (List.replicate nc 0):=by simp [zeros,aG]
  have hs5:=Ai.out.size
  have k7:Keep none_ w6 (w6.alloc (.cells #[aj aR,aj tR,aj L,aj bR,aj cR,.slice (some ⟨w5.heap.size,0,none⟩) nc nc] 101)):=(Keep.refl _ _).alloc _
  have hcl0:=(adt.out.blk ((aA.new w5 (zeros (ah 0) nc) 3).drew) (fun f=>f))
  have hcl:=hcl0.alloc (.cells #[aj aR,aj tR,aj L,aj bR,aj cR,.slice (some ⟨w5.heap.size,0,none⟩) nc nc] 101)
  have hd:=aA.new w6 [aj aR,aj tR,aj L,aj bR,aj cR,.slice (some ⟨w5.heap.size,0,none⟩) nc nc] 101
  have g6:=HG6.out
  have g61:w5.heap.size+1<=cR:=by have:=g6.1;simpa using this
  have g62:w5.heap.size+1<=cX:=by have:=g6.2;simpa using this
  have MN:=fD.out cR cX w5.heap.size w6.heap.size _ (Ai.out.trans k7) (Je.out.still k7) (by rw [<- hz];exact hcl) hd (by omega) (by omega) (Nat.le_refl _) hs5 (by omega)
  exact ⟨_,rfl,MN.1,MN.2,Y7.out.trans (Ai.out.trans k7)⟩
end
section
def Sh.new (c:aK) (b ww nc n:Nat):Sh:=⟨HS.new c b ww nc,Bd.new (n:Int),⟨[[],[],[],[]],0⟩,false,List.replicate n []⟩
def MS.new (c:aK) (id:Nat) (prog:List fE):MS:=⟨id,c,List.replicate c.r.toNat 0,[],0,0,0,prog,[],.nil,0,0,0,0,false⟩
theorem uX.first {s:Sh} {c:aK} (id:Nat) (prog:List fE) (hq:l7 s) (ho:s.Q.opn=0) (hr:0<=c.r):uX 0 s (MS.new c id prog) :=
 ⟨(by show 0<2;decide),(by show 0<2;decide),by omega,by simp [MS.new],hq,Nat.le_refl _,by simp only [MS.new,List.length_replicate];omega,trivial⟩
def Kv:Nat->Sh->MS->Sh × MS
 | 0,s,m=>(s,m)
 | n+1,s,m=>((bG (Kv n s m).1 (Kv n s m).2).1,(bG (Kv n s m).1 (Kv n s m).2).2.1)
def iI (m:MS):Bool:=isNil m.next&&decide (m.res.length=m.prog.length)
def awC:aK:=⟨1,16,1,2,0,1,1⟩
def awS:Sh:=Sh.new awC 1 16 0 1
def awM:MS:=MS.new awC 0 [⟨1,0,1,0⟩,⟨7,1,0,0⟩]
section
variable {H:HS}
theorem Hq (k:Nat):(H.eX k).2.2.ww=H.ww/\(H.eX k).2.2.c=H.c:=by unfold HS.eX;split<;>exact ⟨rfl,rfl⟩
theorem MO (a:Nat):(H.fK a).ww=H.ww/\(H.fK a).c=H.c:=by
 unfold HS.fK
 split
 ·exact ⟨rfl,rfl⟩
 ·split<;>exact ⟨rfl,rfl⟩
theorem MP (a:Nat) (f:Int):(H.iy a f).ww=H.ww/\(H.iy a f).c=H.c:=by
 unfold HS.iy
 split
 ·exact ⟨rfl,rfl⟩
 ·split<;>exact ⟨rfl,rfl⟩
theorem Ql (a c:Nat):(H.jO a c).ww=H.ww/\(H.jO a c).c=H.c:=by unfold HS.jO;split<;>exact ⟨rfl,rfl⟩
theorem Hr (a:Nat):(H.fV a).ww=H.ww/\(H.fV a).c=H.c:=by
 unfold HS.fV
 split
 ·exact MO (H:=H.kill a) a
 ·exact ⟨rfl,rfl⟩
theorem zJ (a:Nat) (f:Int) (v:Nat):(H.gu a f v).ww=H.ww/\(H.gu a f v).c=H.c:=by unfold HS.gu;split<;>exact ⟨rfl,rfl⟩
theorem Vw (i:Int) (v:Nat):(H.oG i v).ww=H.ww/\(H.oG i v).c=H.c:=by unfold HS.oG;split<;>exact ⟨rfl,rfl⟩
theorem Eu (a c:Nat):(H.bQ a c).ww=H.ww/\(H.bQ a c).c=H.c:=by unfold HS.bQ;split<;>exact ⟨rfl,rfl⟩
theorem Jf (k:Nat):(H.dF k).2.2.ww=H.ww/\(H.dF k).2.2.c=H.c:=by unfold HS.dF;split<;>exact ⟨rfl,rfl⟩
theorem acO (rd:RD):(rd.write H).ww=H.ww/\(rd.write H).c=H.c:=by
 cases rd with
 | field b f v=>exact zJ b f v
 | cell i v=>exact Vw i v
end
def cost (W:Nat):MD->Nat
 | .start _=>W+25
 | .field _ _ t=>1+cost W t
 | .load _ _=>1
 | .get _=>1
 | .last _=>1
 | .alloc _ _=>W+24
 | .assign _ _=>W+23
 | .qj _ all=>all.length+17
 | .claim _ _=>21
 | .again _ _=>20
 | .fill _ _=>18
 | .zero _ _ i=>16 - i
 | _=>0
def SC:MD->Prop
 | .nil=>True
 | .start _=>True
 | .field _ _ t=>SC t/\isNil t=false
 | .load _ _=>True
 | .get _=>True
 | .last _=>True
 | .alloc _ _=>True
 | .assign _ _=>True
 | .qj _ all=>2<=all.length
 | .claim _ _=>True
 | .again _ _=>True
 | .fill _ _=>True
 | .zero _ _ _=>True
 | _=>False
structure Y8 (s:Sh) (m:MS):Prop where
 pend:s.B.pend m.id=false
 mode:m.mode=0
 q:∀ k,s.Q.rw k=[]
 ww:16<=s.H.ww
structure aeb (W:Nat) (m:MS) (d:MD) (r:qo):Prop where
 s:Y8 r.s r.m
 nx:SC r.next
 ww:r.s.H.ww=W
 less:cost W r.next+1<=cost W d
 res:r.m.res.length=if isNil r.next then m.res.length+1 else m.res.length
section
variable {s:Sh} {m:MS}
structure Calm (s:Sh) (m:MS):Prop where
 s:Y8 s m
 nx:SC m.next
 le:m.res.length<=m.prog.length
 lt:isNil m.next=false->m.res.length<m.prog.length
def todo (W:Nat) (m:MS):Nat:=if isNil m.next then (m.prog.length - m.res.length)*(W+27) else (m.prog.length - m.res.length - 1)*(W+27)+cost W m.next
theorem MQ {d:MD} (h:isNil d=true):d = .nil:=by cases d<;>first|rfl|cases h
end
end
section
attribute [local go_sem] Oper.semAt_some
open Go.RowKit
def jV (o:Ow) (w:World) (G:Geo) (g:MG) (s:Sh) (m:MS):Ending->World->Prop:=fun e w'=>∃ o',e = .returned (.tuple #[kX (bG s m).2.2,jq (bG s m).2.2])/\aQ w o o'/\kU o' w' G g (bG s m).1 (bG s m).2.1/\Keep (In o (bW m.id)) w w'
section
variable {o o':Ow} {w w':World} {G:Geo} {g:MG} {s:Sh} {m:MS} {nv:Value} {ev:Option Ev}
theorem aN.c19 (h:aN o w G g s m ev nv):w.cell? ⟨g.M,19,none⟩=some (ah (m.spent:Int)):=h.cell 19 _ (fun _ _=>rfl)
theorem aN.c22 (h:aN o w G g s m ev nv):w.cell? ⟨g.M,22,none⟩=some (.bool m.ans):=h.cell 22 _ (fun _ _=>rfl)
theorem aN.MV (h:aN o w G g s m ev nv):∀ jC,aN o (w.setCell ⟨g.M,17,none⟩ jC) G g s m ev jC/\Keep (In o [20+m.id]) w (w.setCell ⟨g.M,17,none⟩ jC):=fun jC=>h.put 17 jC m ev jC (fun pv rv=>rfl) ⟨rfl,rfl,rfl,rfl,rfl,rfl⟩
theorem aN.behind (h:aN o w G g s m ev nv):(∃ a b c d e f t,∀ x,(w.alloc x).cell? ⟨g.M,23,none⟩=some a/\(w.alloc x).cell? ⟨g.M,24,none⟩=some b/\(w.alloc x).cell? ⟨g.M,25,none⟩=some c/\(w.alloc x).cell? ⟨g.M,26,none⟩=some d/\(w.alloc x).cell? ⟨g.M,27,none⟩=some e/\(w.alloc x).cell? ⟨g.M,28,none⟩=some f/\(w.alloc x).cell? ⟨g.M,29,none⟩=some t) /\
 (∀ x,(w.alloc x).cell? ⟨g.M,19,none⟩=some (ah (m.spent:Int)))/\(∀ x,(w.alloc x).cell? ⟨g.M,17,none⟩=some nv)/\(∀ x i,(w.alloc x).frozen? ⟨g.M,i,none⟩=false):=by
 obtain ⟨a,b,c,d,e,f,t,e0,e1,e2,e3,e4,e5,e6⟩:=h.evs
 have k:∀ x,Keep none_ w (w.alloc x):=fun x=>(Keep.refl _ _).alloc x
 exact ⟨⟨a,b,c,d,e,f,t,fun x=>⟨(k x).still e0,(k x).still e1,(k x).still e2,(k x).still e3,(k x).still e4,(k x).still e5,(k x).still e6⟩⟩,fun x=>(h.still (k x)).c19,fun x=>(h.still (k x)).c17,fun x i=>(h.still (k x)).free i⟩
theorem SE (h:aN o w G g s m ev nv) (hn:jG o w (G.D 0) (g.Nt,g.M) (30+m.id) m.next nv) (hnil:isNil m.next=true) (hsp:m.spent<=1000000000):Calls ay 24 #[aj g.M] w (jV o w G g s m):=by
 have i8:m.id<8:=Nat.lt_of_lt_of_le h.jm h.box8
 obtain ⟨o1,W2,hW2,hext,hR,h2,n2,k2,hB⟩:=h.pick0 hn
 obtain ⟨⟨x0,x1,x2,x3,x4,x5,x6,hx⟩,hsp0,hnx0,hfr0⟩:=h.behind
 have Jg:=MQ hnil
 rw [Jg] at hn n2
 obtain rfl:nv = .nilFunc:=hn
 have HP:Hid (∀ W3,W3=W2.setCell ⟨g.M,19,none⟩ (ah 1)->Calls ay 48 #[aj g.M] W3 fun e w4=>∃ v,e = .returned v/\(v = .nilFunc\/∃ (fn:Nat) (caps:Array Value),v = .func (.func fn) #[] caps)/\w4.frozen? ⟨g.M,17,none⟩=false/\w4.cell? ⟨g.M,17,none⟩=some .nilFunc /\
  ∀ W5,W5=w4.setCell ⟨g.M,17,none⟩ v->(W5.cell? ⟨g.M,23,none⟩=some (ah 0)/\W5.cell? ⟨g.M,24,none⟩=some (ah 0)/\W5.cell? ⟨g.M,25,none⟩=some (ah 0)/\W5.cell? ⟨g.M,26,none⟩=some (ah 0)/\W5.cell? ⟨g.M,27,none⟩=some (ah 0)/\W5.cell? ⟨g.M,28,none⟩=some (ah 0)/\W5.cell? ⟨g.M,29,none⟩=some (.bool false)) /\
   aA W5 w.heap.size zero6.toList 37/\Hid (∀ w6,Keep (only w.heap.size) W5 w6->jV o w G g s m (.returned (.tuple #[.agg zero6,.bool false])) w6)):=fun W3 hW3=>by
  have h3:aN o1 W3 G g s { m with spent:=1 } none .nilFunc/\Keep (In o1 [20+m.id]) W2 W3:=by
   rw [hW3];exact h2.put 19 (ah 1) { m with spent:=1 } none .nilFunc (fun pv rv=>rfl) ⟨rfl,rfl,rfl,rfl,rfl,rfl⟩
  refine (SA h3.1).mono ?_
  rintro e w4 ⟨v,rfl,h4,c4,k4⟩
  refine ⟨v,rfl,c4.form,h4.free 17,h4.c17,fun W5 jX=>?_⟩
  obtain ⟨h5,k5⟩:=h4.MV v
  rw [<- jX] at h5 k5
  have k25:Keep (In o1 [20+m.id]) W2 W5:=(h3.2.trans k4).trans k5
  have dh:aA W5 w.heap.size zero6.toList 37:=hB.aH k25 hR (by simp<;>omega)
  have c5:dw o1 W5 g.Nt g.M (dA s { m with spent:=1 }) v:=c4.aH k5 (by simp<;>omega)
  refine ⟨⟨h5.cell 23 _ (fun _ _=>rfl),h5.cell 24 _ (fun _ _=>rfl),h5.cell 25 _ (fun _ _=>rfl),h5.cell 26 _ (fun _ _=>rfl),h5.cell 27 _ (fun _ _=>rfl),h5.cell 28 _ (fun _ _=>rfl),h5.cell 29 _ (fun _ _=>rfl)⟩,dh,fun w6 k6=>?_⟩
  obtain ⟨h6,n6⟩:=h5.CU (d:=dA s m) (v:=v) (jG.of (g:=(g.Nt,g.M)) c5) k6 hR
  have ep:bG s m=(s,{ m with spent:=1,ans:=s.B.pend m.id,next:=dA s m },none):=by
   unfold bG
   rw [if_pos hnil]
  unfold jV
  rw [ep]
  refine ⟨o1,rfl,hext,⟨none,v,h6.withNext (dA s m),n6⟩,?_⟩
  have k26:Keep (fun b=>In o1 [20+m.id] b\/b=w.heap.size) W2 w6:=(k25.mono (fun _ _ h=>Or.inl h)).trans (k6.mono (fun b _ h=>Or.inr h))
  refine k2.trans' k26 (fun i hi hin=>?_)
  rcases hin with hin|hin
  ·unfold In at hin ⊢
   rw [hext i hi] at hin
   simp at hin
   simp [bW,hin]
  ·omega
 have MW:(m.spent:Int)<=1000000000:=by omega
 have Gg:(0:Int)<=(m.spent:Int):=by omega
 have lQ:=hW2
 unfold wS at lQ
 have HW2:=au lQ
 have hnq:=CY
 have f17:=fun x=>hfr0 x 17
 have f19:=fun x=>hfr0 x 19
 have f23:=fun x=>hfr0 x 23
 have f24:=fun x=>hfr0 x 24
 have f25:=fun x=>hfr0 x 25
 have f26:=fun x=>hfr0 x 26
 have f27:=fun x=>hfr0 x 27
 have f28:=fun x=>hfr0 x 28
 have f29:=fun x=>hfr0 x 29
 have g23:=fun x=>(hx x).1
 have g24:=fun x=>(hx x).2.1
 have g25:=fun x=>(hx x).2.2.1
 have g26:=fun x=>(hx x).2.2.2.1
 have g27:=fun x=>(hx x).2.2.2.2.1
 have g28:=fun x=>(hx x).2.2.2.2.2.1
 have g29:=fun x=>(hx x).2.2.2.2.2.2
 generalize jV o w G g s m=PO at *
 generalize m.spent=sp at *
 clear h h2 n2 k2 hext hW2 lQ hx hfr0 hB Jg hnil hsp
 go_enter func24,ntmps24
 go_wp2_with fail
 rw [<- HW2.out]
 refine (HP.out _ rfl).mono ?_
 rintro e w4 ⟨v,rfl,hform,e17,d17,hs⟩
 obtain ⟨W5,jX⟩:∃ W5,W5=w4.setCell ⟨g.M,17,none⟩ v:=⟨_,rfl⟩
 obtain ⟨⟨y0,y1,y2,y3,y4,y5,y6⟩,dh,hend⟩:=hs W5 jX
 obtain ⟨W6,oL⟩:∃ W6,W6=W5.drew:=⟨_,rfl⟩
 have k56:Keep none_ W5 W6:=by rw [oL];exact (Keep.refl none_ W5).drew
 have eH:=k56.blk dh (fun f=>f)
 have fD:=au hend
 have MX:=au jX
 have HB6:=au eH
 have zf0:=dh.free 0
 have zf1:=dh.free 1
 have zf2:=dh.free 2
 have zf3:=dh.free 3
 have zf4:=dh.free 4
 have zf5:=dh.free 5
 have z0:W5.cell? ⟨w.heap.size,0,none⟩=some (ah 0):=dh.cell 0 rfl
 have z1:W5.cell? ⟨w.heap.size,1,none⟩=some (ah 0):=dh.cell 1 rfl
 have z2:W5.cell? ⟨w.heap.size,2,none⟩=some (ah 0):=dh.cell 2 rfl
 have z3:W5.cell? ⟨w.heap.size,3,none⟩=some (ah 0):=dh.cell 3 rfl
 have z4:W5.cell? ⟨w.heap.size,4,none⟩=some (ah 0):=dh.cell 4 rfl
 have z5:W5.cell? ⟨w.heap.size,5,none⟩=some (ah 0):=dh.cell 5 rfl
 have Ba:=k56.still y0;have x1':=k56.still y1;have x2':=k56.still y2;have x3':=k56.still y3;have Bc:=k56.still y4;have Bg:=k56.still y5;have Bh:=k56.still y6
 rw [oL] at Ba x1' x2' x3' Bc Bg Bh
 have yf0:=eH.free 0
 have yf1:=eH.free 1
 have yf2:=eH.free 2
 have yf3:=eH.free 3
 have yf4:=eH.free 4
 have yf5:=eH.free 5
 have r0:W6.cell? ⟨w.heap.size,0,none⟩=some (ah 0):=eH.cell 0 rfl
 have r1:W6.cell? ⟨w.heap.size,1,none⟩=some (ah 0):=eH.cell 1 rfl
 have r2:W6.cell? ⟨w.heap.size,2,none⟩=some (ah 0):=eH.cell 2 rfl
 have r3:W6.cell? ⟨w.heap.size,3,none⟩=some (ah 0):=eH.cell 3 rfl
 have r4:W6.cell? ⟨w.heap.size,4,none⟩=some (ah 0):=eH.cell 4 rfl
 have r5:W6.cell? ⟨w.heap.size,5,none⟩=some (ah 0):=eH.cell 5 rfl
 rw [oL] at r0 r1 r2 r3 r4 r5 yf0 yf1 yf2 yf3 yf4 yf5
 clear f17 f19 f23 f24 f25 f26 f27 f28 f29 g23 g24 g25 g26 g27 g28 g29 hsp0 hnx0 hend hs jX dh eH HB6 MW Gg HP k56 oL
 rcases hform with rfl|⟨fn,caps,rfl⟩
 all_goals
  go_wp2_with fail
  rw [<- MX.out]
  clear e17 d17
  go_region
  go_wp2_with fail
  refine bodyPost_ret (v := .tuple #[.agg zero6,.bool false]) (by simp [results,Tryz.f24,go_sem,zf0,zf1,zf2,zf3,zf4,zf5,z0,z1,z2,z3,z4,z5]) rfl ?_
  exact fD.out _ ((((((((Keep.refl (only w.heap.size) _).put _ _).put _ _).put _ _).put _ _).put _ _).put _ _).drew)
end
end
end Go.Proofs.YtanfphjoebobaaaGreatDoor
