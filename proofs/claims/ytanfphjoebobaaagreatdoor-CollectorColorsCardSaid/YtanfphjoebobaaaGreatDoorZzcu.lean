/- Parts of a walk, put together and made shorter by a program of mine. No conditions. -/
import Derived.Test.YtanfphjoebobaaaGreatDoorZzct
import Derived.Deep.RegionHeld3
namespace Go.Proofs.YtanfphjoebobaaaGreatDoor
set_option maxRecDepth 8000
set_option maxHeartbeats 4000000
section
attribute [local go_sem] Oper.semAt_some
open Go.RowKit
section
variable {o o':Ow} {w w':World} {G:Geo} {q:CG} {s:Sh} {c:CS} {ev:Option Ev} {nv nv0:Value}
def aP (o:Ow) (w:World) (G:Geo) (q:CG) (nv0:Value) (r:iT) (e:Ending) (w':World):Prop :=
 ∃ nv,e = .returned nv∧(nv = .nilFunc∨∃ fn first caps,nv = .func (.func fn) first caps)∧dI o w G q nv0 r (.returned nv) w'
theorem dI.toF {r:iT} {e:Ending} (h:dI o w G q nv0 r e w'):aP o w G q nv0 r e w':=by
 obtain ⟨o',nv,rfl,e1,h1,h2,k⟩:=h
 refine ⟨nv,rfl,?_,o',nv,rfl,e1,h1,h2,k⟩
 rcases h2.form with ⟨_,h⟩|⟨_,h⟩
 ·exact .inl h
 ·exact .inr h
theorem aP.after {r:iT} {e:Ending} {w1 w2:World} (k:Keep (In o aK) w w1) (h:aP o w1 G q nv0 r e w2):aP o w G q nv0 r e w2:=by
 obtain ⟨nv,e1,hf,hp⟩:=h
 exact ⟨nv,e1,hf,hp.after k⟩
theorem aP.made {f:Nat} {args:Array Value} {r:iT} {W:World} (h:CAt o W G q r.s r.c r.ev nv0) (k:Keep (In o aK) w W) (hc:Calls Tryz.prog f args W fun e w'=>∃ nv,e = .returned nv∧aO o w' q.C r.next nv∧Keep none_ W w'):Calls Tryz.prog f args W (aP o w G q nv0 r):=by
 refine hc.mono ?_
 rintro e w' ⟨nv,rfl,h1,k1⟩
 exact (dI.same (h.still k1) h1 (k.trans k1.aF)).toF
theorem aP.made2 {f:Nat} {args:Array Value} {r:iT} {W:World} {S:Nat→Prop} (kS:Keep S w W) (h:CAt o W G q r.s r.c r.ev nv0) (k:Keep (In o aK) w W) (hc:Calls Tryz.prog f args W fun e w'=>∃ nv,e = .returned nv∧aO o w' q.C r.next nv∧Keep none_ W w'):Calls Tryz.prog f args W fun e w'=>aP o w G q nv0 r e w'∧Keep S w w':=by
 refine hc.mono ?_
 rintro e w' ⟨nv,rfl,h1,k1⟩
 exact ⟨(dI.same (h.still k1) h1 (k.trans k1.aF)).toF,kS.trans (k1.mono (fun _ _ f=>f.elim))⟩
theorem dM:aK.contains 0=false:=by decide
theorem ShAt.sC (h:ShAt o w G s):w.cell? ⟨G.S,0,none⟩=some (.pointer (some ⟨G.D 0,0,none⟩))∧w.cell? ⟨G.S,1,none⟩=some (.pointer (some ⟨G.B,0,none⟩))∧w.cell? ⟨G.S,2,none⟩=some (.pointer (some ⟨G.Q,0,none⟩))∧w.cell? ⟨G.S,3,none⟩=some (.pointer (some ⟨G.Fl,0,none⟩)):=by
 obtain ⟨v,h1,_⟩:=h.sh
 exact ⟨h1.cell 0 rfl,h1.cell 1 rfl,h1.cell 2 rfl,h1.cell 3 rfl⟩
theorem CAt.c0 (h:CAt o w G q s c ev nv):w.cell? ⟨q.C,0,none⟩=some (.pointer (some ⟨G.S,0,none⟩)):=h.cell 0 _ rfl
theorem CAt.free (h:CAt o w G q s c ev nv) (i:Nat):w.frozen? ⟨q.C,i,none⟩=false:=h.blk.free i
theorem CAt.evs (h:CAt o w G q s c ev nv):∃ a b d e f x t,w.cell? ⟨q.C,13,none⟩=some a∧w.cell? ⟨q.C,14,none⟩=some b∧w.cell? ⟨q.C,15,none⟩=some d∧w.cell? ⟨q.C,16,none⟩=some e∧w.cell? ⟨q.C,17,none⟩=some f∧w.cell? ⟨q.C,18,none⟩=some x∧w.cell? ⟨q.C,19,none⟩=some t:=by
 obtain ⟨a,b,c',d,e,f,t,he⟩:=wK ev
 refine ⟨a,b,c',d,e,f,t,?_,?_,?_,?_,?_,?_,?_⟩
 all_goals
  refine h.cell _ _ ?_
  unfold ig
  rw [he]
  rfl
theorem qW (h:CAt o w G q s c ev nv) (kind value:Nat):Calls Tryz.prog 79 #[.pointer (some ⟨q.C,0,none⟩),.int .i64 (kind:Int),.int .i64 (value:Int)] w fun e w'=>e = .returned (.tuple #[])∧CAt o w' G q s c (some (c.ev kind value)) nv∧Keep (In o [5]) w w':=by
 have c1:w.cell? ⟨q.C,1,none⟩=some (.int .i64 (c.muts:Int)):=h.cell 1 _ rfl
 obtain ⟨x0,x1,x2,x3,x4,x5,x6,e0,e1,e2,e3,e4,e5,e6⟩:=h.evs
 have f0:=h.free 13;have f1:=h.free 14;have f2:=h.free 15;have f3:=h.free 16;have f4:=h.free 17;have f5:=h.free 18;have f6:=h.free 19
 have k:Keep (only q.C) w (((((((w.setCell ⟨q.C,13,none⟩ (.int .i64 0)).setCell ⟨q.C,14,none⟩ (.int .i64 (c.muts:Int))).setCell ⟨q.C,15,none⟩ (.int .i64 (kind:Int))).setCell ⟨q.C,16,none⟩ (.int .i64 0)).setCell ⟨q.C,17,none⟩ (.int .i64 0)).setCell ⟨q.C,18,none⟩ (.int .i64 (value:Int))).setCell ⟨q.C,19,none⟩ (.bool true)) :=
  (((((((Keep.refl _ _).put _ _).put _ _).put _ _).put _ _).put _ _).put _ _).put _ _
 have HE:=Lib.hid (h.struct k c (some (c.ev kind value)) nv (fun hb=>by
  have:=((((((hb.set 13 (.int .i64 0)).set 14 (.int .i64 (c.muts:Int))).set 15 (.int .i64 (kind:Int))).set 16 (.int .i64 0)).set 17 (.int .i64 0)).set 18 (.int .i64 (value:Int))).set 19 (.bool true)
  obtain ⟨a,b,c',d,e,f,t,he⟩:=wK ev
  unfold ig at this ⊢
  rw [he] at this
  exact this) ⟨rfl,rfl,rfl⟩)
 generalize c.ev kind value=x at *
 generalize c.muts=mi at *
 clear h k
 go_enter Tryz.func79,Tryz.ntmps79
 go_wp2_with fail
 go_end0
 exact ⟨rfl,HE.out.1,HE.out.2⟩
theorem oH (h:CAt o w G q s c ev nv0) (p:Nat) {t:CD} {tv:Value} (ht:aO o w q.C t tv) (hc0:0≤s.B.count) (hc1:s.B.count≤1000000000):Calls Tryz.prog 80 #[.pointer (some ⟨q.C,0,none⟩),.int .i64 (p:Int),tv] w (aP o w G q nv0 (oU s c p t ev)):=by
 have y4:=h.cell 4 _ rfl
 have f4:=h.free 4
 obtain ⟨W1,hW1⟩:∃ W1,W1=w.setCell ⟨q.C,4,none⟩ (.int .i64 (p:Int)):=⟨_,rfl⟩
 obtain ⟨h1,k1⟩:=h.put 4 (.int .i64 (p:Int)) { c with phase:=p } ev nv0 rfl ⟨rfl,rfl,rfl⟩
 rw [← hW1] at h1 k1
 have y0:=h1.c0
 have s1:=h1.sh.sC.2.1
 have HB:Hid (Calls Tryz.prog 120 #[.pointer (some ⟨G.B,0,none⟩),.int .i64 (p:Int)] W1 fun e w'=>(∃ er:Int,e = .returned (.int .i64 er))∧CAt o w' G q (s.ask p) { c with phase:=p } ev nv0∧Keep (In o aK) w w'):=by
  refine (I8 G.B s.B (p:Int) W1 h1.sh.board hc0 hc1).mono ?_
  rintro e w' ⟨rfl,g1,g2⟩
  obtain ⟨h2,k2⟩:=h1.nT g2 g1
  exact ⟨⟨_,rfl⟩,h2,(k5I k1).trans k2⟩
 have HWT:Hid (∀ W,CAt o W G q (s.ask p) { c with phase:=p } ev nv0→Keep (In o aK) w W→Calls Tryz.prog 121 #[.pointer (some ⟨q.C,0,none⟩),.int .i64 0,tv] W (aP o w G q nv0 (oU s c p t ev))):=fun W hW hk =>
  aP.made (r:=oU s c p t ev) hW hk (vF hW.sh.fut q.C 0 (ht.ay hk dM))
 have HW:=Lib.hid hW1
 have hform:=ht.forms
 rw [hW1] at y0 s1
 generalize c.phase=ph at *
 generalize oU s c p t ev=R at *
 clear h h1 k1 ht hW1 hc0 hc1
 rcases hform with rfl|⟨fn,first,caps,rfl⟩
 all_goals
  go_enter Tryz.func80,Tryz.ntmps80
  go_wp2_with fail
  rw [← HW.out]
  refine HB.out.mono ?_
  rintro e w2 ⟨⟨er,rfl⟩,g1,g2⟩
  have H2:=Lib.hid (HWT.out w2 g1 g2)
  clear g1 g2 y0 s1 y4 f4 HB HWT
  go_wp2_with fail
  refine H2.out.mono ?_
  rintro e w3 ⟨nv,rfl,hf,hp⟩
  have HP:=Lib.hid hp
  clear hp H2
  rcases hf with rfl|⟨fn2,first2,caps2,rfl⟩
  all_goals
   go_wp2_with fail
   go_ret
   exact ⟨_,rfl,by first|exact .inl rfl|exact .inr ⟨_,_,_,rfl⟩,HP.out⟩
end
section
variable {o o':Ow} {w w':World} {G:Geo} {q:CG} {s:Sh} {c:CS} {ev:Option Ev} {nv nv0:Value}
theorem TB (h:CAt o w G q s c none nv0) (hc0:0≤s.B.count) (hc1:s.B.count≤1000000000):Calls Tryz.prog 82 #[.pointer (some ⟨q.C,0,none⟩)] w (aP o w G q nv0 (aj s c .scan)):=by
 have HA:Hid (Calls Tryz.prog 80 #[.pointer (some ⟨q.C,0,none⟩),.int .i64 3,bnd 122 q.C] w (aP o w G q nv0 (aj s c .scan))):=oH h 3 (t := .trace) (tv:=bnd 122 q.C) rfl hc0 hc1
 have hmf:=gV
 generalize aj s c .scan=R at *
 clear h hc0 hc1
 go_enter Tryz.func82,Tryz.ntmps82
 go_wp2_with fail
 refine HA.out.mono ?_
 rintro e w3 ⟨nv,rfl,hf,hp⟩
 have HP:=Lib.hid hp
 clear hp HA
 rcases hf with rfl|⟨fn2,first2,caps2,rfl⟩
 all_goals
  go_wp2_with fail
  go_ret
  exact ⟨_,rfl,by first|exact .inl rfl|exact .inr ⟨_,_,_,rfl⟩,HP.out⟩
theorem UW (h:CAt o w G q s c none nv0) (hc0:0≤s.B.count) (hc1:s.B.count≤1000000000) (b0:Nat) (k0:Blk w b0 [ah q.C] 30):Calls Tryz.prog 81 #[.pointer (some ⟨b0,0,none⟩)] w (aP o w G q nv0 (aj s c .arm)):=by
 have HA:Hid (Calls Tryz.prog 80 #[.pointer (some ⟨q.C,0,none⟩),.int .i64 2,bnd 82 q.C] w (aP o w G q nv0 (aj s c .arm))):=oH h 2 (t := .scan) (tv:=bnd 82 q.C) rfl hc0 hc1
 have hmf:=gV
 have z0:w.cell? ⟨b0,0,none⟩=some (.pointer (some ⟨q.C,0,none⟩)):=k0.cell 0 rfl
 generalize aj s c .arm=R at *
 clear h hc0 hc1 k0
 go_enter Tryz.func81,Tryz.ntmps81
 go_wp2_with fail
 refine HA.out.mono ?_
 rintro e w3 ⟨nv,rfl,hf,hp⟩
 have HP:=Lib.hid hp
 clear hp HA
 rcases hf with rfl|⟨fn2,first2,caps2,rfl⟩
 all_goals
  go_wp2_with fail
  go_ret
  exact ⟨_,rfl,by first|exact .inl rfl|exact .inr ⟨_,_,_,rfl⟩,HP.out⟩
theorem UY (h:CAt o w G q s c none nv0) (hc0:0≤s.B.count) (hc1:s.B.count≤1000000000) (b0:Nat) (k0:Blk w b0 [ah q.C] 30):Calls Tryz.prog 300 #[.pointer (some ⟨b0,0,none⟩)] w (aP o w G q nv0 (aj s c .off)):=by
 have HA:Hid (Calls Tryz.prog 80 #[.pointer (some ⟨q.C,0,none⟩),.int .i64 7,bnd 301 q.C] w (aP o w G q nv0 (aj s c .off))):=oH h 7 (t := .idle) (tv:=bnd 301 q.C) rfl hc0 hc1
 have hmf:=gV
 have z0:w.cell? ⟨b0,0,none⟩=some (.pointer (some ⟨q.C,0,none⟩)):=k0.cell 0 rfl
 generalize aj s c .off=R at *
 clear h hc0 hc1 k0
 go_enter Tryz.func300,Tryz.ntmps300
 go_wp2_with fail
 refine HA.out.mono ?_
 rintro e w3 ⟨nv,rfl,hf,hp⟩
 have HP:=Lib.hid hp
 clear hp HA
 rcases hf with rfl|⟨fn2,first2,caps2,rfl⟩
 all_goals
  go_wp2_with fail
  go_ret
  exact ⟨_,rfl,by first|exact .inl rfl|exact .inr ⟨_,_,_,rfl⟩,HP.out⟩
theorem Ro (h:CAt o w G q s c none nv0) (hc0:0≤s.B.count) (hc1:s.B.count≤1000000000) (hd:c.drains≤1000000000):Calls Tryz.prog 283 #[.pointer (some ⟨q.C,0,none⟩)] w (aP o w G q nv0 (aj s c .drain)):=by
 have y8:=h.cell 8 _ rfl
 have f8:=h.free 8
 have f11:=h.free 11
 obtain ⟨W1,hW1⟩:∃ W1,W1=w.setCell ⟨q.C,8,none⟩ (.bool false):=⟨_,rfl⟩
 obtain ⟨h1,k1⟩:=h.put 8 (.bool false) { c with fresh:=false } none nv0 rfl ⟨rfl,rfl,rfl⟩
 rw [← hW1] at h1 k1
 have y11:=h1.cell 11 _ rfl
 have f11':=h1.free 11
 obtain ⟨W2,hW2⟩:∃ W2,W2=W1.setCell ⟨q.C,11,none⟩ (.int .i64 ((c.drains:Int)+1)):=⟨_,rfl⟩
 obtain ⟨h2,k2⟩:=h1.put 11 (.int .i64 ((c.drains:Int)+1)) { c with fresh:=false,drains:=c.drains+1 } none nv0 (by show _=ig G q _ _ _;unfold ig;push_cast;rfl) ⟨rfl,rfl,rfl⟩
 rw [← hW2] at h2 k2
 have HA:Hid (Calls Tryz.prog 80 #[.pointer (some ⟨q.C,0,none⟩),.int .i64 5,bnd 208 q.C] W2 (aP o w G q nv0 (aj s c .drain))):=(oH h2 5 (t := .work) (tv:=bnd 208 q.C) rfl hc0 hc1).mono (fun e w' hp=>hp.after (k5I (k1.trans k2)))
 have hmf:=gV
 have hw1:IntKind.i64.wrap ((c.drains:Int)+1)=(c.drains:Int)+1:=IntWalk.i64_in _ (by omega)
 generalize aj s c .drain=R at *
 have HW1:=Lib.hid hW1
 have HW2:=Lib.hid hW2
 have y0:=h.c0
 rw [hW1] at y11 f11'
 generalize c.fresh=fr at *
 generalize c.drains=dr at *
 clear h h1 h2 k1 k2 hW1 hW2 hc0 hc1
 go_enter Tryz.func283,Tryz.ntmps283
 go_wp2_with fail
 rw [← HW1.out,← HW2.out]
 refine HA.out.mono ?_
 rintro e w3 ⟨nv,rfl,hf,hp⟩
 have HP:=Lib.hid hp
 clear hp HA
 rcases hf with rfl|⟨fn2,first2,caps2,rfl⟩
 all_goals
  go_wp2_with fail
  go_ret
  exact ⟨_,rfl,by first|exact .inl rfl|exact .inr ⟨_,_,_,rfl⟩,HP.out⟩
theorem Rq (h:CAt o w G q s c none nv0):Calls Tryz.prog 122 #[.pointer (some ⟨q.C,0,none⟩)] w (aP o w G q nv0 (aj s c .trace)):=by
 have y4:=h.cell 4 _ rfl
 have f4:=h.free 4
 obtain ⟨W1,hW1⟩:∃ W1,W1=w.setCell ⟨q.C,4,none⟩ (.int .i64 4):=⟨_,rfl⟩
 obtain ⟨h1,k1⟩:=h.put 4 (.int .i64 4) { c with phase:=4 } none nv0 rfl ⟨rfl,rfl,rfl⟩
 rw [← hW1] at h1 k1
 have HA:Hid (Calls Tryz.prog 168 #[.pointer (some ⟨q.C,0,none⟩),.int .i64 0] W1 (aP o w G q nv0 (aj s c .trace))):=aP.made (r:=aj s c .trace) h1 (k5I k1) (BM (c:=c) h1.sh.fut q.C 0 (h1.cell 3 _ rfl))
 generalize aj s c .trace=R at *
 have HW1:=Lib.hid hW1
 generalize c.phase=ph at *
 clear h h1 k1 hW1
 go_enter Tryz.func122,Tryz.ntmps122
 go_wp2_with fail
 rw [← HW1.out]
 refine HA.out.mono ?_
 rintro e w3 ⟨nv,rfl,hf,hp⟩
 have HP:=Lib.hid hp
 clear hp HA
 rcases hf with rfl|⟨fn2,first2,caps2,rfl⟩
 all_goals
  go_wp2_with fail
  go_ret
  exact ⟨_,rfl,by first|exact .inl rfl|exact .inr ⟨_,_,_,rfl⟩,HP.out⟩
theorem PV (h:CAt o w G q s c none nv0):Calls Tryz.prog 284 #[.pointer (some ⟨q.C,0,none⟩)] w (aP o w G q nv0 (aj s c .marked)):=by
 have y6:=h.cell 6 _ rfl
 have HT:Hid (Calls Tryz.prog 79 #[.pointer (some ⟨q.C,0,none⟩),.int .i64 3,.int .i64 (c.cycles:Int)] w fun e w'=>e = .returned (.tuple #[])∧CAt o w' G q s c (some (c.ev 3 c.cycles)) nv0∧Keep (In o [5]) w w'):=qW h 3 c.cycles
 have HS:Hid (∀ W,CAt o W G q s c (some (c.ev 3 c.cycles)) nv0→Keep (In o [5]) w W→∃ W1,W1=W.setCell ⟨q.C,4,none⟩ (.int .i64 6)∧(∃ ph:Int,W.cell? ⟨q.C,4,none⟩=some (.int .i64 ph))∧W.frozen? ⟨q.C,4,none⟩=false∧Calls Tryz.prog 289 #[.pointer (some ⟨q.C,0,none⟩),.int .i64 0] W1 (aP o w G q nv0 (aj s c .marked))):=fun W hW hk=>by
  obtain ⟨h1,k1⟩:=hW.put 4 (.int .i64 6) { c with phase:=6 } (some (c.ev 3 c.cycles)) nv0 rfl ⟨rfl,rfl,rfl⟩
  exact ⟨_,rfl,⟨_,hW.cell 4 _ rfl⟩,hW.free 4,aP.made (r:=aj s c .marked) h1 (k5I (hk.trans k1)) (qI (c:=c) h1.sh.fut q.C 0 (h1.cell 2 _ rfl))⟩
 generalize aj s c .marked=R at *
 generalize c.cycles=cy at *
 clear h
 go_enter Tryz.func284,Tryz.ntmps284
 go_wp2_with fail
 refine HT.out.mono ?_
 rintro e w1 ⟨rfl,h1,k1⟩
 obtain ⟨W1,hW1,⟨ph,y4⟩,f4,ha⟩:=HS.out w1 h1 k1
 have HA:=Lib.hid ha
 have HW1:=Lib.hid hW1
 clear h1 k1 HS HT ha hW1 y6
 go_wp2_with fail
 rw [← HW1.out]
 refine HA.out.mono ?_
 rintro e w3 ⟨nv,rfl,hf,hp⟩
 have HP:=Lib.hid hp
 clear hp HA
 rcases hf with rfl|⟨fn2,first2,caps2,rfl⟩
 all_goals
  go_wp2_with fail
  go_ret
  exact ⟨_,rfl,by first|exact .inl rfl|exact .inr ⟨_,_,_,rfl⟩,HP.out⟩
theorem TD (h:CAt o w G q s c none nv0):Calls Tryz.prog 301 #[.pointer (some ⟨q.C,0,none⟩)] w (aP o w G q nv0 (aj s c .idle)):=by
 have y4:=h.cell 4 _ rfl
 have f4:=h.free 4
 obtain ⟨W1,hW1⟩:∃ W1,W1=w.setCell ⟨q.C,4,none⟩ (.int .i64 0):=⟨_,rfl⟩
 obtain ⟨h1,k1⟩:=h.put 4 (.int .i64 0) { c with phase:=0 } none nv0 rfl ⟨rfl,rfl,rfl⟩
 rw [← hW1] at h1 k1
 have y6:=h1.cell 6 _ rfl
 rw [hW1] at y6
 have HT:Hid (Calls Tryz.prog 79 #[.pointer (some ⟨q.C,0,none⟩),.int .i64 4,.int .i64 (c.cycles:Int)] W1 fun e w'=>e = .returned (.tuple #[])∧dI o w G q nv0 (aj s c .idle) (.returned .nilFunc) w'):=by
  refine (qW h1 4 c.cycles).mono ?_
  rintro e w' ⟨rfl,g1,g2⟩
  exact ⟨rfl,dI.same (r:=aj s c .idle) g1 rfl (k5I (k1.trans g2))⟩
 generalize aj s c .idle=R at *
 have HW1:=Lib.hid hW1
 generalize c.phase=ph at *
 generalize c.cycles=cy at *
 clear h h1 k1 hW1
 go_enter Tryz.func301,Tryz.ntmps301
 go_wp2_with fail
 rw [← HW1.out]
 refine HT.out.mono ?_
 rintro e w3 ⟨rfl,hp⟩
 have HP:=Lib.hid hp
 clear hp HT
 go_wp2_with fail
 go_ret
 exact ⟨_,rfl,.inl rfl,HP.out⟩
end
section
variable {o o':Ow} {w w':World} {G:Geo} {q:CG} {s:Sh} {c:CS} {ev:Option Ev} {nv nv0:Value}
theorem TF (h:CAt o w G q s c none nv0) (hmu:c.muts≤8) (m:Nat) (hm:m<c.muts) (t:CD) (tv:Value) (ht:aO o w q.C t tv) (b0 b1 b2:Nat) (o0:o b0=0) (o1:o b1=0) (o2:o b2=0) (k0:Blk w b0 [ah q.C] 30) (k1:Blk w b1 [.int .i64 (m:Int)] 3) (k2:Blk w b2 [tv] 88) :
 Calls Tryz.prog 166 #[.pointer (some ⟨b0,0,none⟩),.pointer (some ⟨b1,0,none⟩),.pointer (some ⟨b2,0,none⟩)] w (aP o w G q nv0 (aj s c (.wait m t))):=by
 have HC:Hid (∀ V,Keep none_ w V→V.cell? ⟨b0,0,none⟩=some (.pointer (some ⟨q.C,0,none⟩))∧V.cell? ⟨b1,0,none⟩=some (.int .i64 (m:Int))∧V.cell? ⟨b2,0,none⟩=some tv∧V.cell? ⟨q.C,0,none⟩=some (.pointer (some ⟨G.S,0,none⟩))∧V.cell? ⟨q.C,1,none⟩=some (.int .i64 (c.muts:Int))∧V.cell? ⟨G.S,1,none⟩=some (.pointer (some ⟨G.B,0,none⟩))):=fun V hV=>by
  have h9:=h.still hV
  exact ⟨(hV.blk k0 (fun f=>f)).cell 0 rfl,(hV.blk k1 (fun f=>f)).cell 0 rfl,(hV.blk k2 (fun f=>f)).cell 0 rfl,h9.c0,h9.cell 1 _ rfl,h9.sh.sC.2.1⟩
 have HAN:Hid (∀ V,Keep none_ w V→Calls Tryz.prog 167 #[.pointer (some ⟨G.B,0,none⟩),.int .i64 (m:Int)] V fun e w'=>e = .returned (.bool (s.B.did m))∧V=w'):=fun V hV=>yM G.B s.B (m:Int) V (h.still hV).sh.board
 have hform:=ht.forms
 have HST:Hid (∀ V,Keep none_ w V→CAt o V G q s c none nv0∧aO o V q.C t tv):=fun V hV=>⟨h.still hV,ht.still hV⟩
 have e1:aj s c (.wait m t)=⟨s,c,if !s.B.did m then .wait m t else if m+1<c.muts then .wait (m+1) t else t,none⟩:=rfl
 have hwm:IntKind.i64.wrap ((m:Int)+1)=(m:Int)+1:=IntWalk.i64_in _ (by omega)
 obtain ⟨y0,y1,y2,y3,y4,y5⟩:=HC.out w (Keep.refl _ _)
 cases hd:s.B.did m with
 | false =>
   rw [hd] at HAN e1
   have HW:Hid (∀ V,Keep none_ w V→Calls Tryz.prog 121 #[.pointer (some ⟨q.C,0,none⟩),.int .i64 (m:Int),tv] V (aP o w G q nv0 (aj s c (.wait m t)))):=fun V hV=>by
    rw [e1]
    exact aP.made (r:=⟨s,c,.wait m t,none⟩) (HST.out V hV).1 hV.aF (vF (HST.out V hV).1.sh.fut q.C m (HST.out V hV).2)
   generalize aj s c (.wait m t)=R at *
   clear h ht k0 k1 k2 o0 o1 o2 HST hd e1
   rcases hform with rfl|⟨fn,first,caps,rfl⟩
   all_goals
    go_enter Tryz.func166,Tryz.ntmps166
    go_wp2_with fail
    go_quiet (first|(go_at_call 167;exact Calls.quiet_of_same (dK (HAN.out _ ((Keep.refl none_ w).drewN _)))))
    obtain ⟨V,hV⟩:∃ V,V=w.drewN nq:=⟨_,rfl⟩
    have hk:Keep none_ w V:=by rw [hV];exact (Keep.refl _ _).drewN _
    rw [← hV]
    clear hV y0 y1 y2 y3 y4 y5
    obtain ⟨y0,y1,y2,y3,y4,y5⟩:=HC.out V hk
    have HWV:=Lib.hid (HW.out V hk)
    clear HW HC HAN hk
    go_wp2_with fail
    refine HWV.out.mono ?_
    rintro e w3 ⟨nv,rfl,hf,hp⟩
    have HP:=Lib.hid hp
    clear hp HWV
    rcases hf with rfl|⟨fn2,first2,caps2,rfl⟩
    all_goals
     go_wp2_with fail
     go_ret
     exact ⟨_,rfl,by first|exact .inl rfl|exact .inr ⟨_,_,_,rfl⟩,HP.out⟩
 | true =>
   rw [hd] at HAN e1
   by_cases hlt:m+1<c.muts
   ·have oV:(m:Int)+1<(c.muts:Int):=by omega
    have HW:Hid (∀ V,Keep none_ w V→Calls Tryz.prog 121 #[.pointer (some ⟨q.C,0,none⟩),.int .i64 ((m:Int)+1),tv] V (aP o w G q nv0 (aj s c (.wait m t)))):=fun V hV=>by
     have h9:=vF (HST.out V hV).1.sh.fut q.C (m+1) (HST.out V hV).2
     rw [show (((m+1:Nat)):Int)=(m:Int)+1 from by push_cast;rfl] at h9
     rw [e1]
     exact aP.made (r:=⟨s,c,_,none⟩) (HST.out V hV).1 hV.aF (by simp only [Bool.not_true,Bool.false_eq_true,if_false,if_pos hlt];exact h9)
    generalize aj s c (.wait m t)=R at *
    clear h ht k0 k1 k2 o0 o1 o2 HST hd e1 hlt hm
    generalize c.muts=mu at *
    rcases hform with rfl|⟨fn,first,caps,rfl⟩
    all_goals
     go_enter Tryz.func166,Tryz.ntmps166
     go_wp2_with fail
     go_quiet (first|(go_at_call 167;exact Calls.quiet_of_same (dK (HAN.out _ ((Keep.refl none_ w).drewN _)))))
     obtain ⟨V,hV⟩:∃ V,V=w.drewN nq:=⟨_,rfl⟩
     have hk:Keep none_ w V:=by rw [hV];exact (Keep.refl _ _).drewN _
     rw [← hV]
     clear hV y0 y1 y2 y3 y4 y5 nq
     obtain ⟨y0,y1,y2,y3,y4,y5⟩:=HC.out V hk
     go_wp2_with fail
     go_quiet (fail)
     obtain ⟨V2,hV2⟩:∃ V2,V2=V.drewN nq:=⟨_,rfl⟩
     have hk2:Keep none_ w V2:=by rw [hV2];exact hk.drewN _
     rw [← hV2]
     clear hV2 y0 y1 y2 y3 y4 y5
     obtain ⟨y0,y1,y2,y3,y4,y5⟩:=HC.out V2 hk2
     have HWV:=Lib.hid (HW.out V2 hk2)
     clear HW HC HAN hk hk2
     go_wp2_with fail
     refine HWV.out.mono ?_
     rintro e w3 ⟨nv,rfl,hf,hp⟩
     have HP:=Lib.hid hp
     clear hp HWV
     rcases hf with rfl|⟨fn2,first2,caps2,rfl⟩
     all_goals
      go_wp2_with fail
      go_ret
      exact ⟨_,rfl,by first|exact .inl rfl|exact .inr ⟨_,_,_,rfl⟩,HP.out⟩
   ·have oV:¬ ((m:Int)+1<(c.muts:Int)):=by omega
    have HE:Hid (∀ V,Keep none_ w V→dI o w G q nv0 (aj s c (.wait m t)) (.returned tv) V):=fun V hV=>by
     rw [e1]
     exact dI.same (r:=⟨s,c,_,none⟩) (HST.out V hV).1 (by simp only [Bool.not_true,Bool.false_eq_true,if_false,if_neg hlt];exact (HST.out V hV).2) hV.aF
    generalize aj s c (.wait m t)=R at *
    clear h ht k0 k1 k2 o0 o1 o2 HST hd e1 hlt hm
    generalize c.muts=mu at *
    rcases hform with rfl|⟨fn,first,caps,rfl⟩
    all_goals
     go_enter Tryz.func166,Tryz.ntmps166
     go_wp2_with fail
     go_quiet (first|(go_at_call 167;exact Calls.quiet_of_same (dK (HAN.out _ ((Keep.refl none_ w).drewN _)))))
     obtain ⟨V,hV⟩:∃ V,V=w.drewN nq:=⟨_,rfl⟩
     have hk:Keep none_ w V:=by rw [hV];exact (Keep.refl _ _).drewN _
     rw [← hV]
     clear hV y0 y1 y2 y3 y4 y5 nq
     obtain ⟨y0,y1,y2,y3,y4,y5⟩:=HC.out V hk
     go_wp2_with fail
     go_quiet (fail)
     obtain ⟨V2,hV2⟩:∃ V2,V2=V.drewN nq:=⟨_,rfl⟩
     have hk2:Keep none_ w V2:=by rw [hV2];exact hk.drewN _
     rw [← hV2]
     clear hV2 y0 y1 y2 y3 y4 y5
     obtain ⟨y0,y1,y2,y3,y4,y5⟩:=HC.out V2 hk2
     have HEV:=Lib.hid (HE.out V2 hk2)
     clear HE HC HAN hk hk2
     go_wp2_with fail
     go_ret
     exact ⟨_,rfl,by first|exact .inl rfl|exact .inr ⟨_,_,_,rfl⟩,HEV.out⟩
end
section
variable {o o':Ow} {w w':World} {G:Geo} {q:CG} {s:Sh} {c:CS} {ev:Option Ev} {nv nv0:Value}
theorem TG {H:HS} {x col:Nat} (hp:H.dw x col=true):(if H.bn x&&decide (col<2) then (0:Int) else 1)=0:=by
 unfold HS.dw at hp
 rw [Bool.and_eq_true] at hp
 rw [if_pos hp.1]
theorem TI (h:CAt o w G q s c none nv0) (hl:c.stk.length≤c.room) (hr:c.room≤4096) (x:Nat) (t:CD) (tv:Value) (ht:aO o w q.C t tv) (b0 b1 b2:Nat) (o0:o b0=0) (o1:o b1=0) (o2:o b2=0) (k0:Blk w b0 [ah q.C] 30) (k1:Blk w b1 [.int .i64 (x:Int)] 3) (k2:Blk w b2 [tv] 88) :
 Calls Tryz.prog 244 #[.pointer (some ⟨b0,0,none⟩),.pointer (some ⟨b1,0,none⟩),.pointer (some ⟨b2,0,none⟩)] w (aP o w G q nv0 (aj s c (.look x t))):=by
 have HC:Hid (∀ V,Keep (In o aK) w V→V.cell? ⟨b0,0,none⟩=some (.pointer (some ⟨q.C,0,none⟩))∧V.cell? ⟨b1,0,none⟩=some (.int .i64 (x:Int))∧V.cell? ⟨b2,0,none⟩=some tv):=fun V hV =>
  ⟨(hV.blk k0 (aU o0 dM)).cell 0 rfl,(hV.blk k1 (aU o1 dM)).cell 0 rfl,(hV.blk k2 (aU o2 dM)).cell 0 rfl⟩
 have hkd:Keep none_ w w.drew:=(Keep.refl none_ w).drew
 have hd:=h.still hkd
 obtain ⟨y0,y1,y2⟩:=HC.out w (Keep.refl _ _)
 have y3:=h.c0
 have y4:w.cell? ⟨q.C,5,none⟩=some (.int .i64 (c.color:Int)):=h.cell 5 _ rfl
 have y5:=h.sh.sC.1
 have hform:=ht.forms
 have HPT:Hid (Calls Tryz.prog 216 #[.pointer (some ⟨G.D 0,0,none⟩),.int .i64 (x:Int),.int .i64 (c.color:Int)] w.drew fun e w'=>e = .returned (.tuple #[.bool (s.H.dw x c.color),.int .i64 (if s.H.bn x&&decide (c.color<2) then 0 else 1)])∧CAt o w' G q { s with H:=s.H.aY x c.color } c none nv0∧Keep (In o aK) w w'):=by
  refine (yX hd.sh.heap x c.color).mono ?_
  rintro e w' ⟨rfl,g1,g2⟩
  obtain ⟨h1,k1⟩:=hd.lU g2 g1
  exact ⟨rfl,h1,hkd.aF.trans k1⟩
 cases hp:s.H.dw x c.color with
 | true =>
   have e1:aj s c (.look x t)=⟨{ s with H:=s.H.aY x c.color },{ c with fresh:=true }.push x,t,none⟩:=by simp only [aj,hp,if_true]
   rw [hp,TG hp] at HPT
   have HS:Hid (∀ W,CAt o W G q { s with H:=s.H.aY x c.color } c none nv0→Keep (In o aK) w W→∃ W1,W1=W.setCell ⟨q.C,8,none⟩ (.bool true)∧W.cell? ⟨q.C,8,none⟩=some (.bool c.fresh)∧W.frozen? ⟨q.C,8,none⟩=false∧Keep (In o aK) w W1∧W1.cell? ⟨q.C,9,none⟩=some (.pointer (some ⟨q.K,0,none⟩)) ∧
    Calls Tryz.prog 245 #[.pointer (some ⟨q.K,0,none⟩),.int .i64 (x:Int)] W1.drew fun e w'=>(∃ b,e = .returned (.bool b))∧w'.cell? ⟨b2,0,none⟩=some tv∧dI o w G q nv0 (aj s c (.look x t)) (.returned tv) w'):=fun W hW hk=>by
    obtain ⟨h1,k1⟩:=hW.put 8 (.bool true) { c with fresh:=true } none nv0 rfl ⟨rfl,rfl,rfl⟩
    refine ⟨_,rfl,hW.cell 8 _ rfl,hW.free 8,hk.trans (k5I k1),h1.zC,?_⟩
    have kd:Keep none_ (W.setCell ⟨q.C,8,none⟩ (.bool true)) (W.setCell ⟨q.C,8,none⟩ (.bool true)).drew:=(Keep.refl none_ _).drew
    refine (Nk (h1.still kd) x hl hr).mono ?_
    rintro e w' ⟨hb,o',eo,h2,k2'⟩
    have kk:Keep (In o aK) w w':=(hk.trans (k5I k1)).trans (kd.aF.trans (k5I k2'))
    have ew:aH w o o':=fun b hb=>eo b (by have:=((hk.trans (k5I k1)).trans kd.aF).size;omega)
    refine ⟨hb,(HC.out w' kk).2.2,o',tv,rfl,ew,?_,eG.of ?_,kk⟩
    ·rw [e1];exact h2
    ·rw [e1];exact aO.ext ew (ht) |>.ay (kk.nS ew) dM
   clear e1
   generalize aj s c (.look x t)=R at *
   generalize { s with H:=s.H.aY x c.color }=s' at *
   generalize c.color=col at *
   clear h hd hkd ht k0 k1 k2 o0 o1 o2 hp
   rcases hform with rfl|⟨fn,first,caps,rfl⟩
   all_goals
    go_enter Tryz.func244,Tryz.ntmps244
    go_wp2_with fail
    refine aA 12 rfl (by kernel_rfl) (by kernel_rfl) (fun K hK=>?_)
    change wpStill _ _ (World.drew _) _ _ _
    simp only [List.take_succ_cons,List.take_zero,List.drop_succ_cons,List.drop_zero] at hK ⊢
    repeat still_step
    refine wpStill_nil ?_
    change ite _ (Oper.wp _ _ _ _ _ _) _
    go_simp
    refine HPT.out.mono ?_
    rintro e w1 ⟨rfl,h1,k1⟩
    refine hK _ _ ?_
    clear hK K
    obtain ⟨W1,hW1,z8,f8,kk1,z9,hpush⟩:=HS.out w1 h1 k1
    clear y0 y1 y2 y3 y4 y5
    obtain ⟨y0,y1,y2⟩:=HC.out w1 k1
    obtain ⟨u0,u1,u2⟩:=HC.out W1 kk1
    have HPU:=Lib.hid hpush
    have HW1:=Lib.hid hW1
    clear h1 k1 HPT HS HC kk1 hpush hW1
    repeat still_step
    refine wpStill_nil ?_
    go_wp2_with fail
    rw [← HW1.out]
    clear y0 y1 y2 z8 f8
    go_wp2_with fail
    refine aA 5 rfl (by kernel_rfl) (by kernel_rfl) (fun K hK=>?_)
    change wpStill _ _ (World.drew _) _ _ _
    simp only [List.take_succ_cons,List.take_zero,List.drop_succ_cons,List.drop_zero] at hK ⊢
    repeat still_step
    refine wpStill_nil ?_
    change ite _ (Oper.wp _ _ _ _ _ _) _
    go_simp
    refine HPU.out.mono ?_
    rintro e w2 ⟨⟨b,rfl⟩,v2,hp⟩
    refine hK _ _ ?_
    clear hK K
    have HP:=Lib.hid hp
    clear hp HPU u0 u1 u2 z9
    repeat still_step
    refine wpStill_nil ?_
    go_wp2_with fail
    go_ret
    exact ⟨_,rfl,by first|exact .inl rfl|exact .inr ⟨_,_,_,rfl⟩,HP.out⟩
 | false =>
   have e1:aj s c (.look x t)=⟨s,c,t,none⟩:=by simp only [aj,hp];rfl
   have hsame:s.H.aY x c.color=s.H:=by unfold HS.aY;rw [if_neg (by rw [hp];decide)]
   rw [hp,hsame] at HPT
   have HE:Hid (∀ W,CAt o W G q { s with H:=s.H } c none nv0→Keep (In o aK) w W→dI o w G q nv0 (aj s c (.look x t)) (.returned tv) W):=fun W hW hk=>by
    rw [e1]
    exact dI.same (r:=⟨s,c,t,none⟩) hW (ht.ay hk dM) hk
   clear e1
   generalize aj s c (.look x t)=R at *
   obtain ⟨er,her⟩:∃ er:Int,er=if s.H.bn x&&decide (c.color<2) then 0 else 1:=⟨_,rfl⟩
   rw [← her] at HPT
   have her2:er=0∨er=1:=by rw [her];split<;>simp
   generalize { s with H:=s.H }=s' at *
   generalize c.color=col at *
   clear h hd hkd ht k0 k1 k2 o0 o1 o2 hp hsame her
   rcases hform with rfl|⟨fn,first,caps,rfl⟩<;>rcases her2 with rfl|rfl
   all_goals
    go_enter Tryz.func244,Tryz.ntmps244
    go_wp2_with fail
    refine aA 12 rfl (by kernel_rfl) (by kernel_rfl) (fun K hK=>?_)
    change wpStill _ _ (World.drew _) _ _ _
    simp only [List.take_succ_cons,List.take_zero,List.drop_succ_cons,List.drop_zero] at hK ⊢
    repeat still_step
    refine wpStill_nil ?_
    change ite _ (Oper.wp _ _ _ _ _ _) _
    go_simp
    refine HPT.out.mono ?_
    rintro e w1 ⟨rfl,h1,k1⟩
    refine hK _ _ ?_
    clear hK K
    have HP:=Lib.hid (HE.out w1 h1 k1)
    clear y0 y1 y2 y3 y4 y5
    obtain ⟨y0,y1,y2⟩:=HC.out w1 k1
    clear h1 k1 HPT HE HC
    repeat still_step
    refine wpStill_nil ?_
    go_wp2_with fail
    go_ret
    exact ⟨_,rfl,by first|exact .inl rfl|exact .inr ⟨_,_,_,rfl⟩,HP.out⟩
end
section
variable {o o':Ow} {w w':World} {G:Geo} {q:CG} {s:Sh} {c:CS} {ev:Option Ev} {nv nv0:Value}
theorem TJ (h:CAt o w G q s c none nv0) (i:Nat) (hi:i≤100) (b0 b1:Nat) (k0:Blk w b0 [ah q.C] 30) (k1:Blk w b1 [.int .i64 (i:Int)] 3) :
 Calls Tryz.prog 209 #[.pointer (some ⟨b0,0,none⟩),.pointer (some ⟨b1,0,none⟩)] w (aP o w G q nv0 (aj s c (.cell i))):=by
 have HC:Hid (∀ V,Keep none_ w V→V.cell? ⟨b0,0,none⟩=some (.pointer (some ⟨q.C,0,none⟩))∧V.cell? ⟨b1,0,none⟩=some (.int .i64 (i:Int))):=fun V hV =>
  ⟨(hV.blk k0 (fun f=>f)).cell 0 rfl,(hV.blk k1 (fun f=>f)).cell 0 rfl⟩
 obtain ⟨y0,y1⟩:=HC.out w (Keep.refl _ _)
 have y3:=h.c0
 have y5:=h.sh.sC.1
 have HCE:Hid (∀ V,Keep none_ w V→Calls Tryz.prog 57 #[.pointer (some ⟨G.D 0,0,none⟩),.int .i64 (i:Int)] V fun e w'=>e = .returned (.tuple #[.int .i64 (s.H.cellP (i:Int):Int),.int .i64 (s.H.jo (i:Int):Int)])∧V=w'):=fun V hV=>vg (h.still hV).sh.heap (i:Int)
 have HNC:Hid (∀ V,Keep none_ w V→Calls Tryz.prog 168 #[.pointer (some ⟨q.C,0,none⟩),.int .i64 ((i:Int)+1)] V fun e w'=>∃ nv,e = .returned nv∧(aO o w' q.C (c.dF (i+1)) nv∧Keep none_ w w')∧Keep none_ V w'):=fun V hV=>by
  have h9:=h.still hV
  have g:=BM (c:=c) h9.sh.fut q.C (i+1) (h9.cell 3 _ rfl)
  rw [show (((i+1:Nat)):Int)=(i:Int)+1 from by push_cast;rfl] at g
  refine g.mono ?_
  rintro e w' ⟨nv,rfl,g1,g2⟩
  exact ⟨nv,rfl,⟨g1,hV.trans g2⟩,g2⟩
 have HLK:Hid (∀ V nv,aO o V q.C (c.dF (i+1)) nv∧Keep none_ w V→Calls Tryz.prog 210 #[.pointer (some ⟨q.C,0,none⟩),.int .i64 (s.H.cellP (i:Int):Int),nv] V fun e w'=>aP o w G q nv0 (aj s c (.cell i)) e w'∧Keep none_ w w'):=fun V nv hV =>
  aP.made2 (r:=aj s c (.cell i)) hV.2 (h.still hV.2) hV.2.aF (vG (h.still hV.2).sh.fut q.C _ hV.1)
 have hwi:IntKind.i64.wrap ((i:Int)+1)=(i:Int)+1:=IntWalk.i64_in _ (by omega)
 generalize aj s c (.cell i)=R at *
 generalize c.dF (i+1)=d at *
 generalize s.H.cellP (i:Int)=v at *
 generalize s.H.jo (i:Int)=er at *
 clear h k0 k1
 go_enter Tryz.func209,Tryz.ntmps209
 go_wp2_with fail
 go_quiet (first|(go_at_call 57;exact Calls.quiet_of_same (dK (HCE.out _ ((Keep.refl none_ w).drewN _)))))
 obtain ⟨V,hV⟩:∃ V,V=w.drewN nq:=⟨_,rfl⟩
 have HK:Hid (Keep none_ w V):=by rw [hV];exact (Keep.refl _ _).drewN _
 rw [← hV]
 clear hV y0 y1 y3 y5 nq HCE
 obtain ⟨y0,y1⟩:=HC.out V HK.out
 go_wp2_with fail
 go_region_held3 (fun W'=>W'.cell? ⟨b0,0,none⟩=some (.pointer (some ⟨q.C,0,none⟩))∧W'.cell? ⟨b1,0,none⟩=some (.int .i64 (i:Int)))
  (first
   | exact ⟨y0,y1⟩
   | exact HC.out _ HK3.out
   | exact HC.out _ HX.out.2
   | exact HC.out _ HK.out.drew
   | fail "iw")
  (first
   | (go_at_call 168
      refine (HNC.out _ (by first|exact HK.out.drew|exact HK.out)).mono ?_
      rintro e w2 ⟨nv,rfl,hx,_⟩
      have HX:=Lib.hid hx
      clear hx)
   | (go_at_call 210
      refine (HLK.out _ _ HX.out).mono ?_
      rintro e w3 ⟨⟨nv3,rfl,hf3,hp3⟩,k3⟩
      have HK3:=Lib.hid k3
      have HP:=Lib.hid hp3
      have HFM:=Lib.hid hf3
      clear hp3 hf3 k3)
   | fail "jc")
 all_goals
  have hfm:=HFM.out
  rcases hfm with rfl|⟨fn2,first2,caps2,rfl⟩
  all_goals
   go_wp2_with fail
   go_ret
   exact ⟨_,rfl,by first|exact .inl rfl|exact .inr ⟨_,_,_,rfl⟩,HP.out⟩
end
end
end Go.Proofs.YtanfphjoebobaaaGreatDoor
