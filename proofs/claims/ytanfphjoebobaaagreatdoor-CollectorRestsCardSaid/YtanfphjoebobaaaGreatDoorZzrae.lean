/- Parts of a walk, put together and made shorter by a small program of mine. No conditions but those that each theorem names. -/
import Derived.Test.YtanfphjoebobaaaGreatDoorZzrg
import Derived.Test.YtanfphjoebobaaaGreatDoorZzrab
import Derived.Test.YtanfphjoebobaaaGreatDoorZzrad
import Derived.Test.YtanfphjoebobaaaGreatDoorZzry
import Derived.Test.YtanfphjoebobaaaGreatDoorZzro
import Derived.Test.YtanfphjoebobaaaGreatDoorZzrq
import Derived.Test.YtanfphjoebobaaaGreatDoorZzrr
namespace Go.Proofs.YtanfphjoebobaaaGreatDoor
section
structure ShK (s s':Sh):Prop where
 bl:s'.boxes.length=s.boxes.length
 ql:∀ k,(s'.Q.rw k).length≤(s.Q.rw k).length
 cnt:s'.B.count=s.B.count
 mu:s'.B.muts=s.B.muts
 c:s'.H.c=s.H.c
 ww:s'.H.ww=s.H.ww
theorem ShK.refl (s:Sh):ShK s s:=⟨rfl,fun _=>Nat.le_refl _,rfl,rfl,rfl,rfl⟩
theorem ShK.heap (s:Sh) {H:HS} (h:H.ww=s.H.ww∧H.c=s.H.c):ShK s { s with H:=H }:=⟨rfl,fun _=>Nat.le_refl _,rfl,rfl,h.2,h.1⟩
theorem ansB_count (b:Bd) (k:Int):(b.ansB k).count=b.count∧(b.ansB k).muts=b.muts:=by
 unfold Bd.ansB
 split<;>exact ⟨rfl,rfl⟩
section
variable {N:Nat} {s:Sh} {m:MS}
theorem startR_s (s:Sh) (m:MS) (o:OpR):(startR s m o).s=s:=by
 unfold startR fieldR gotR didR
 repeat' split
 all_goals rfl
theorem stepM_sh (s:Sh) (m:MS) (d:MD):ShK s (stepM s m d).s:=by
 cases d with
 | nil=>exact ShK.refl s
 | start o=>show ShK s (startR s m o).s;rw [startR_s];exact ShK.refl s
 | once k=>exact ⟨rfl,fun _=>Nat.le_refl _,(ansB_count _ _).1,(ansB_count _ _).2,rfl,rfl⟩
 | note v c t =>
   simp only [stepM]
   repeat' split
   all_goals exact ShK.refl s
 | add v t =>
   simp only [stepM]
   split<;>exact ShK.refl s
 | pour c t =>
   simp only [stepM]
   split
   ·exact ⟨by simp,fun _=>Nat.le_refl _,rfl,rfl,rfl,rfl⟩
   ·exact ShK.refl s
 | paint c f t=>exact ShK.heap s (paintP_w _ _)
 | raise t=>exact ⟨rfl,fun _=>Nat.le_refl _,rfl,rfl,rfl,rfl⟩
 | field base f t =>
   simp only [stepM]
   split<;>exact ShK.refl s
 | load o base=>exact ShK.refl s
 | get o=>exact ShK.refl s
 | lay v rd=>exact ShK.refl s
 | last rd=>exact ShK.heap s (rdw_w rd)
 | alloc o k =>
   simp only [stepM]
   split
   ·exact ShK.heap s (takeP_w k)
   ·exact ShK.refl s
 | assign o k =>
   simp only [stepM]
   split
   ·exact ShK.heap s (assignP_w k)
   ·exact ShK.refl s
 | carve o all=>exact ShK.heap s (putP_w _)
 | claim o k =>
   simp only [stepM]
   split
   ·exact ShK.refl s
   ·exact ⟨rfl,fun j=>take_rw s.Q k j,rfl,rfl,rfl,rfl⟩
 | again o k =>
   simp only [stepM]
   split
   ·exact ShK.heap s (takeP_w k)
   ·exact ShK.refl s
 | sweep sl c t =>
   cases sl with
   | nil =>
     refine ⟨rfl,fun j=>?_,rfl,rfl,rfl,rfl⟩
     show ((if s.Q.opn=0 then s.Q else s.Q.doneQ).rw j).length≤_
     split<;>exact Nat.le_refl _
   | cons a r =>
     simp only [stepM]
     split
     ·exact ShK.refl s
     ·exact ShK.heap s (freeP_w a)
 | fill o a=>exact ShK.heap s (beginP_w _ _)
 | zero o a i =>
   simp only [stepM]
   split
   ·exact ShK.heap s (bearP_w _ _)
   ·exact ShK.heap s (storeP_w _ _ _)
theorem pickM_sh (s:Sh) (m:MS):ShK s (pickM s m).1:=by
 unfold pickM
 split
 ·exact ShK.refl s
 ·exact stepM_sh s _ _
theorem Pok.sh {M:Nat} {s':Sh} (h:Pok N s m) (hM:N≤M) (ho:s'.Q.opn≤M) (hq:QOk s'):Pok M s' m:=⟨h.color,h.want,ho,Nat.le_trans h.res hM,hq,Nat.le_trans h.sp hM,h.rl,h.nx⟩
theorem CK.sh {M:Nat} {s':Sh} {c:CS} (h:CK N s c) (hM:N≤M) (k:ShK s s') (ho:s'.Q.opn≤M) (hq:QOk s'):CK M s' c :=
 ⟨k.bl.trans h.mu,h.mu1,h.bl,h.ce,h.rm,h.stk,h.color,Nat.le_trans h.cyc hM,Nat.le_trans h.dr hM,Nat.le_trans h.wa hM,ho,hq,fun j=>Nat.le_trans (k.ql j) (Nat.le_trans (h.ql j) hM),by rw [k.cnt];exact ⟨h.cnt.1,by have:=h.cnt.2;omega⟩,h.ph⟩
structure ShC (s s':Sh):Prop where
 bl:s'.boxes.length=s.boxes.length
 mu:s'.B.muts=s.B.muts
 c:s'.H.c=s.H.c
 ww:s'.H.ww=s.H.ww
theorem ShC.refl (s:Sh):ShC s s:=⟨rfl,rfl,rfl,rfl⟩
theorem askB_muts (b:Bd) (k:Int):(b.askB k).muts=b.muts:=by
 unfold Bd.askB
 split<;>rfl
theorem askR_sh (s:Sh) (c:CS) (p:Nat) (t:CD) (ev:Option Ev):ShC s (askR s c p t ev).s:=⟨rfl,askB_muts _ _,rfl,rfl⟩
theorem stepC_sh (s:Sh) (c:CS) (d:CD):ShC s (stepC s c d).s:=by
 cases d with
 | arm=>exact askR_sh _ _ _ _ _
 | scan=>exact askR_sh _ _ _ _ _
 | drain=>exact askR_sh _ _ _ _ _
 | off=>exact askR_sh _ _ _ _ _
 | look v t =>
   simp only [stepC]
   split
   ·exact ⟨rfl,rfl,(paintP_w _ _).2,(paintP_w _ _).1⟩
   ·exact ShC.refl s
 | work =>
   simp only [stepC]
   split<;>exact ShC.refl s
 | box m =>
   simp only [stepC]
   split
   ·exact ⟨by simp,rfl,rfl,rfl⟩
   ·exact ShC.refl s
 | over =>
   simp only [stepC]
   repeat' split
   all_goals exact ⟨rfl,rfl,rfl,rfl⟩
 | enqueue b =>
   simp only [stepC]
   split<;>exact ⟨rfl,rfl,rfl,rfl⟩
 | sweep =>
   simp only [stepC]
   split<;>exact ⟨rfl,rfl,rfl,rfl⟩
 | block sl =>
   cases sl with
   | nil=>exact ⟨rfl,rfl,rfl,rfl⟩
   | cons a r =>
     simp only [stepC]
     split
     ·exact ShC.refl s
     ·exact ⟨rfl,rfl,(freeP_w a).2,(freeP_w a).1⟩
 | empty t =>
   simp only [stepC]
   split<;>exact ShC.refl s
 | _=>exact ShC.refl s
theorem pickC_sh (s:Sh) (c:CS):ShC s (pickC s c).s:=by
 unfold pickC
 split
 ·exact stepC_sh s c _
 ·split
  ·exact (askR_sh s { c with wish:=false,cycles:=c.cycles+1,color:=1 - c.color } 1 .arm (some (c.ev 2 (c.cycles+1))):ShC s (startC s c).s)
  ·exact ShC.refl s
structure WOk (N:Nat) (x:WS):Prop where
 len:x.muts.length=x.coll.muts
 mut_:∀ i m,x.muts[i]?=some m→m.id=i∧Pok N x.s m
 coll:Cok N x.s x.coll
 picks:x.picks≤N
 evs:x.evs.length≤N
theorem WS.tell_s (x:WS) (ev:Option Ev):(x.tell ev).s=x.s∧(x.tell ev).muts=x.muts∧(x.tell ev).coll=x.coll∧(x.tell ev).picks=x.picks+1∧(x.tell ev).evs.length≤x.evs.length+1:=by
 cases ev with
 | none=>exact ⟨rfl,rfl,rfl,rfl,Nat.le_succ _⟩
 | some e=>exact ⟨rfl,rfl,rfl,rfl,by simp [WS.tell]⟩
theorem WOk.tell {x y:WS} {ev:Option Ev} (hl:y.muts.length=y.coll.muts) (hm:∀ i m,y.muts[i]?=some m→m.id=i∧Pok (N+1) y.s m) (hc:Cok (N+1) y.s y.coll) (hp:y.picks≤N) (he:y.evs.length≤N):WOk (N+1) (y.tell ev):=by
 obtain ⟨e1,e2,e3,e4,e5⟩:=y.tell_s ev
 exact ⟨by rw [e2,e3];exact hl,by rw [e1,e2];exact hm,by rw [e1,e3];exact hc,by rw [e4];omega,by omega⟩
theorem pickW_ok {x:WS} (h:WOk N x) (hb:HBd x.s.H) (who:Nat):WOk (N+1) (pickW x who):=by
 unfold pickW
 cases hw:x.muts[who]? with
 | some m =>
   obtain ⟨hid,hp⟩:=h.mut_ who m hw
   have hk:=pick_ok hp
   have hs:=pickM_sh x.s m
   refine WOk.tell (x:=x) (by show (x.muts.set who _).length=_;simpa using h.len) (fun i m' hi=>?_) ⟨h.coll.k.sh (Nat.le_succ N) hs hk.1.opn hk.1.q,h.coll.nx⟩ h.picks h.evs
   by_cases e:who=i
   ·subst e
    have hlt:=(List.getElem?_eq_some_iff.1 hw).1
    have hi':(x.muts.set who (pickM x.s m).2.1)[who]?=some m':=hi
    rw [List.getElem?_set_self hlt] at hi'
    cases hi'
    exact ⟨hk.2.2.1.trans hid,hk.1⟩
   ·have hi':(x.muts.set who (pickM x.s m).2.1)[i]?=some m':=hi
    rw [List.getElem?_set_ne e] at hi'
    obtain ⟨g1,g2⟩:=h.mut_ i m' hi'
    exact ⟨g1,g2.sh (Nat.le_succ N) hk.1.opn hk.1.q⟩
 | none =>
   simp only
   split
   ·have hc:=pickC_ok h.coll hb
    refine WOk.tell (x:=x) (by show x.muts.length=(pickC x.s x.coll).c.muts;rw [hc.2.1];exact h.len) (fun i m' hi=>?_) hc.1 h.picks h.evs
    obtain ⟨g1,g2⟩:=h.mut_ i m' hi
    exact ⟨g1,g2.sh (Nat.le_succ N) hc.1.k.opn hc.1.k.q⟩
   ·refine WOk.tell (x:=x) h.len (fun i m' hi=>?_) ?_ h.picks h.evs
    ·obtain ⟨g1,g2⟩:=h.mut_ i m' hi
     exact ⟨g1,g2.sh (Nat.le_succ N) (Nat.le_succ_of_le g2.opn) g2.q⟩
    ·have g:=h.coll.k.more (Nat.le_succ N)
     exact ⟨⟨g.mu,g.mu1,g.bl,g.ce,g.rm,g.stk,g.color,g.cyc,g.dr,g.wa,g.opn,g.q,g.ql,g.cnt,g.ph⟩,h.coll.nx⟩
end
end
section
open Go.RowKit
section
variable {o o':Ow} {w w' W W':World} {G:Geo} {g:MG} {q:CG} {s s':Sh} {m:MS} {c:CS} {ev:Option Ev} {nv:Value} {I:List Nat}
theorem Keep.lowO (k0:Keep none_ w W) (k:Keep (In o I) W W') (h0:I.contains 0=false) (hz:∀ x,x<w.heap.size→o x=0):Keep none_ w W' :=
 k0.trans' k (fun i hi hin=>absurd hin (not_in' (hz i hi) h0))
theorem MAt.shareE (h:MAt o w G g s m ev nv) (k:Keep (In o I) w w') (h0:I.contains 0=false) (hi:I.contains (20+m.id)=false) (e:OExt w o o') (hs:ShAt o' w' G s') (hl:s'.boxes.length=s.boxes.length) (hc:s'.H.c=s.H.c):MAt o' w' G g s' m ev nv:=by
 obtain ⟨pv,rv,h1,h2,h3⟩:=h.blk
 have k':=k.extO e
 obtain ⟨_,v,hb,_⟩:=id h.buf
 exact ⟨hs,⟨pv,rv,h1.keepO k h.oM hi,(h2.ext e).keepO k' h0,(h3.ext e).keepO k' hi⟩,(e _ h1.lt).trans h.oM,h.regs.keepO k h.oX hi,(e _ h.regs.lt).trans h.oX,(h.buf.ext e).keepO k' h0 ((e _ hb.lt).trans h.oBf) hi,(e _ hb.lt).trans h.oBf,h.nt.keepO k h.oNt h0,(e _ h.nt.lt).trans h.oNt,by rw [hl];exact h.idl,by rw [hl];exact h.box8,h.conf.trans hc.symm,h.rlen,h.blen⟩
theorem MutAt.shareE (h:MutAt o w G g s m) (k:Keep (In o I) w w') (h0:I.contains 0=false) (hi:I.contains (20+m.id)=false) (hj:I.contains (30+m.id)=false) (e:OExt w o o') (hs:ShAt o' w' G s') (hl:s'.boxes.length=s.boxes.length) (hc:s'.H.c=s.H.c):MutAt o' w' G g s' m:=by
 obtain ⟨ev,nv,h1,hn⟩:=h
 exact ⟨ev,nv,h1.shareE k h0 hi e hs hl hc,(hn.ext e).keepO (k.extO e) h0 hj⟩
theorem CAt.shareE (h:CAt o w G q s c ev nv) (k:Keep (In o I) w w') (h5:I.contains 5=false) (e:OExt w o o') (hs:ShAt o' w' G s') (hl:s'.boxes.length=s.boxes.length):CAt o' w' G q s' c ev nv:=by
 obtain ⟨v,h1,_⟩:=id h.stk
 have oK:=(e _ h1.lt).trans h.oK
 exact ⟨hs,h.blk.keepO k h.oC h5,(e _ h.blk.lt).trans h.oC,(h.stk.ext e).keepO oK (k.extO e) h5,oK,by rw [hl];exact h.box8⟩
theorem CollAt.shareE (h:CollAt o w G q s c) (k:Keep (In o I) w w') (h0:I.contains 0=false) (h5:I.contains 5=false) (h40:I.contains 40=false) (e:OExt w o o') (hs:ShAt o' w' G s') (hl:s'.boxes.length=s.boxes.length):CollAt o' w' G q s' c:=by
 obtain ⟨ev,nv,h1,hn⟩:=h
 exact ⟨ev,nv,h1.shareE k h5 e hs hl,(hn.ext e).keepO (k.extO e) h0 h40⟩
theorem MutAt.sh (h:MutAt o w G g s m):ShAt o w G s:=by
 obtain ⟨ev,nv,h1,_⟩:=h
 exact h1.sh
theorem MutAt.idl (h:MutAt o w G g s m):m.id<s.boxes.length∧s.boxes.length≤8:=by
 obtain ⟨ev,nv,h1,_⟩:=h
 exact ⟨h1.idl,h1.box8⟩
theorem CollAt.sh (h:CollAt o w G q s c):ShAt o w G s:=by
 obtain ⟨ev,nv,h1,_⟩:=h
 exact h1.sh
theorem CollAt.box8 (h:CollAt o w G q s c):s.boxes.length≤8:=by
 obtain ⟨ev,nv,h1,_⟩:=h
 exact h1.box8
structure CW (w W:World) (o:Ow) (G:Geo) (gs:List MG) (q:CG) (x:WS):Prop where
 coll:CollAt o W G q x.s x.coll
 len:gs.length=x.muts.length
 mut_:∀ (i:Nat) g m,gs[i]?=some g→x.muts[i]?=some m→MutAt o W G g x.s m∧m.id=i
 low:∀ b,b<w.heap.size→o b=0
 keep:Keep none_ w W
variable {gs:List MG} {x y:WS}
theorem CW.stillE (h:CW w W o G gs q x) (k:Keep none_ W W'):CW w W' o G gs q x :=
 ⟨h.coll.still k,h.len,fun i g m h1 h2=>⟨(h.mut_ i g m h1 h2).1.still k,(h.mut_ i g m h1 h2).2⟩,h.low,h.keep.trans k⟩
theorem CW.moveE (h:CW w W o G gs q x) (k:Keep (In o I) W W') (hI:I.all (fun i=>decide (50≤i))=true) (e:OExt W o o') (hf:Fut o' W'):CW w W' o' G gs q x:=by
 have hge:∀ i,i<50→I.contains i=false:=fun i hi=>by
  rw [Bool.eq_false_iff]
  intro hc
  have:=List.all_eq_true.1 hI i (by simpa using hc)
  simp at this;omega
 have hs:ShAt o' W' G x.s:=h.coll.sh.move k (List.all_eq_true.2 (fun i hi=>by have:=List.all_eq_true.1 hI i hi;simp at this ⊢;omega)) h.coll.box8 e hf
 refine ⟨h.coll.shareE k (hge 0 (by decide)) (hge 5 (by decide)) (hge 40 (by decide)) e hs rfl,h.len,fun i g m h1 h2=>?_,fun b hb=>(e b (Nat.lt_of_lt_of_le hb h.keep.size)).trans (h.low b hb),h.keep.lowO k (hge 0 (by decide)) h.low⟩
 obtain ⟨g1,g2⟩:=h.mut_ i g m h1 h2
 have:=g1.idl
 exact ⟨g1.shareE k (hge 0 (by decide)) (hge _ (by omega)) (hge _ (by omega)) e hs rfl rfl,g2⟩
theorem CW.tell (h:CW w W o G gs q x) (hy:y.s=x.s∧y.muts=x.muts∧y.coll=x.coll):CW w W o G gs q y:=by
 obtain ⟨e1,e2,e3⟩:=hy
 exact ⟨by rw [e1,e3];exact h.coll,by rw [e2];exact h.len,by rw [e1,e2];exact h.mut_,h.low,h.keep⟩
theorem CW.pick {N:Nat} (h:CW w W o G gs q x) (ok:WOk N x) (hN:N≤1000000000) {i:Nat} {m:MS} (hg:gs[i]?=some g) (hm:x.muts[i]?=some m) (hst:StepH m.next):Calls Tryz.prog 24 #[.pointer (some ⟨g.M,0,none⟩)] W fun e W'=>e = .returned (.tuple #[evAgg (pickM x.s m).2.2,evTold (pickM x.s m).2.2])∧∃ o',OExt W o o'∧CW w W' o' G gs q (pickW x i)∧Keep (In o (stepI i)) W W':=by
 obtain ⟨g1,g2⟩:=h.mut_ i g m hg hm
 obtain ⟨k1,k2⟩:=ok.mut_ i m hm
 refine (mPick_any g1 k2 hN hst).mono ?_
 rintro e W' ⟨o',rfl,eo,hq,k⟩
 have hsh:=pickM_sh x.s m
 have hmok:=pick_ok k2
 have hidl:=g1.idl
 rw [g2] at k hidl
 have h0:=stepI_0 i
 have h5:(stepI i).contains 5=false:=by simp [stepI];omega
 have h40:(stepI i).contains 40=false:=by simp [stepI];omega
 refine ⟨rfl,o',eo,?_,k⟩
 have ew:pickW x i=({ x with s:=(pickM x.s m).1,muts:=x.muts.set i (pickM x.s m).2.1 }:WS).tell (pickM x.s m).2.2:=by
  unfold pickW
  rw [hm]
 rw [ew]
 have hcw:CW w W' o' G gs q { x with s:=(pickM x.s m).1,muts:=x.muts.set i (pickM x.s m).2.1 }:=by
  refine ⟨h.coll.shareE k h0 h5 h40 eo hq.sh hsh.bl,by show gs.length=(x.muts.set i _).length;rw [List.length_set];exact h.len,fun j g' m' h1 h2=>?_,fun b hb=>(eo b (Nat.lt_of_lt_of_le hb h.keep.size)).trans (h.low b hb),h.keep.lowO k h0 h.low⟩
  by_cases hij:i=j
  ·subst hij
   have hlt:=(List.getElem?_eq_some_iff.1 hm).1
   have h2':(x.muts.set i (pickM x.s m).2.1)[i]?=some m':=h2
   rw [List.getElem?_set_self hlt] at h2'
   cases h2'
   rw [hg] at h1
   cases h1
   exact ⟨hq,hmok.2.2.1.trans g2⟩
  ·have h2':(x.muts.set i (pickM x.s m).2.1)[j]?=some m':=h2
   rw [List.getElem?_set_ne hij] at h2'
   obtain ⟨g3,g4⟩:=h.mut_ j g' m' h1 h2'
   have hj:=g3.idl
   exact ⟨g3.shareE k h0 (by rw [g4];rw [g4] at hj;simp [stepI];omega) (by rw [g4];rw [g4] at hj;simp [stepI];omega) eo hq.sh hsh.bl hsh.c,g4⟩
 obtain ⟨e1,e2,e3,_⟩:=WS.tell_s { x with s:=(pickM x.s m).1,muts:=x.muts.set i (pickM x.s m).2.1 } (pickM x.s m).2.2
 exact hcw.tell ⟨e1,e2,e3⟩
theorem CW.pickColl {N:Nat} (h:CW w W o G gs q x) (ok:WOk N x) (hN:N≤1000000000):Calls Tryz.prog 12 #[.pointer (some ⟨q.C,0,none⟩)] W fun e W'=>e = .returned (.tuple #[evAgg (pickC x.s x.coll).ev,evTold (pickC x.s x.coll).ev])∧∃ o',OExt W o o'∧CW w W' o' G gs q (pickW x x.muts.length)∧Keep (In o collI) W W':=by
 refine (cPick_any h.coll ok.coll hN).mono ?_
 rintro e W' ⟨o',rfl,eo,hq,k⟩
 have hsh:=pickC_sh x.s x.coll
 refine ⟨rfl,o',eo,?_,k⟩
 have ew:pickW x x.muts.length=({ x with s:=(pickC x.s x.coll).s,coll:=(pickC x.s x.coll).c }:WS).tell (pickC x.s x.coll).ev:=by
  unfold pickW
  rw [List.getElem?_eq_none (Nat.le_refl _)]
  simp only [if_true]
 rw [ew]
 have hcw:CW w W' o' G gs q { x with s:=(pickC x.s x.coll).s,coll:=(pickC x.s x.coll).c }:=by
  refine ⟨hq,h.len,fun j g' m' h1 h2=>?_,fun b hb=>(eo b (Nat.lt_of_lt_of_le hb h.keep.size)).trans (h.low b hb),h.keep.lowO k collI_0 h.low⟩
  obtain ⟨g3,g4⟩:=h.mut_ j g' m' h1 h2
  have hj:=g3.idl
  exact ⟨g3.shareE k collI_0 (by simp [collI];omega) (by simp [collI];omega) eo hq.sh hsh.bl hsh.c,g4⟩
 obtain ⟨e1,e2,e3,_⟩:=WS.tell_s { x with s:=(pickC x.s x.coll).s,coll:=(pickC x.s x.coll).c } (pickC x.s x.coll).ev
 exact hcw.tell ⟨e1,e2,e3⟩
theorem CW.wish (h:CW w W o G gs q x):Calls Tryz.prog 14 #[.pointer (some ⟨q.C,0,none⟩)] W fun e W'=>e = .returned (.tuple #[])∧CW w W' o G gs q (pickW x (x.muts.length+1))∧Keep (In o [5]) W W':=by
 refine (cWish_any h.coll).mono ?_
 rintro e W' ⟨rfl,hq,k⟩
 refine ⟨rfl,?_,k⟩
 have ew:pickW x (x.muts.length+1)=({ x with coll:={ x.coll with wish:=true } }:WS).tell none:=by
  unfold pickW
  rw [List.getElem?_eq_none (by omega)]
  simp only
  rw [if_neg (by omega)]
 rw [ew]
 have hcw:CW w W' o G gs q { x with coll:={ x.coll with wish:=true } }:=by
  refine ⟨hq,h.len,fun j g' m' h1 h2=>?_,h.low,h.keep.lowO k rfl h.low⟩
  obtain ⟨g3,g4⟩:=h.mut_ j g' m' h1 h2
  have hj:=g3.idl
  exact ⟨g3.shareE k rfl (by simp;omega) (by simp;omega) (OExt.refl _ _) hq.sh rfl rfl,g4⟩
 obtain ⟨e1,e2,e3,_⟩:=WS.tell_s { x with coll:={ x.coll with wish:=true } } none
 exact hcw.tell ⟨e1,e2,e3⟩
end
end
section
def pickTill (stop:Sh→MS→Bool):Nat→Sh→MS→Sh × MS
 | 0,s,m=>(s,m)
 | f+1,s,m=>if stop s m then (s,m) else pickTill stop f (pickM s m).1 (pickM s m).2.1
def HS.putL:HS→List Nat→HS
 | H,[]=>H
 | H,a::l=>(H.putP a).putL l
def HS.slotP (H:HS) (k:Nat):Nat × Nat × HS :=
 if (H.takeP k).2.1=0 then ((H.takeP k).1,0,(H.takeP k).2.2)
 else if (H.assignP k).2.1=0 then ((H.assignP k).1.headD 0,0,((H.assignP k).2.2).putL (H.assignP k).1.tail.reverse)
 else (0,10,H)
def HS.storeL (H:HS) (a:Nat):Nat→HS
 | 0=>H
 | i+1=>(H.storeL a i).storeP a (i:Int) 0
def HS.makeP (H:HS) (f c:Nat):Nat × HS :=
 if (H.slotP (ofK f)).2.1=0 then ((H.slotP (ofK f)).1,(((H.slotP (ofK f)).2.2.beginP (H.slotP (ofK f)).1 f).storeL (H.slotP (ofK f)).1 f).bearP (H.slotP (ofK f)).1 c)
 else (0,(H.slotP (ofK f)).2.2)
def lgC (ww st:Nat):Conf:=⟨1,ww,1,2,1,4,st⟩
def lgH0 (ww st:Nat):HS:=((HS.new (lgC ww st) 1 ww 1).makeP 1 0).2
def lgH1 (ww st:Nat):HS:=((lgH0 ww st).makeP 1 0).2
def lgS (ww st:Nat):Sh:={ Sh.new (lgC ww st) 1 ww 1 1 with H:=(lgH1 ww st).setP 0 1 }
def lgM (ww st:Nat):MS:=MS.new (lgS ww st).H.c 0 [⟨4,1,0,0⟩,⟨4,0,0,0⟩,⟨5,0,1,0⟩]
def lgA (ww st:Nat):Sh × MS:=pickTill (fun _ m=>decide (1≤m.res.length)) 19 (lgS ww st) (lgM ww st)
def lgB (ww st:Nat):Sh × MS:=({ (lgA ww st).1 with H:=(lgA ww st).1.H.setP 0 3 },(lgA ww st).2)
def lgK (i:Nat):Nat:=if i=0 then 1 else if i=1 then 5 else 7
def lgQ (ww st:Nat):Nat→Sh × MS
 | 0=>lgB ww st
 | i+1=>pickTill (fun s _=>s.B.all) 199 { (lgQ ww st i).1 with B:=(lgQ ww st i).1.B.askB (lgK i:Int) } (lgQ ww st i).2
def lgE (ww st i:Nat):Sh × MS:=pickTill (fun _ m=>doneM m) 199 (lgQ ww st i).1 (lgQ ww st i).2
def lgOk (ww st i:Nat):Bool :=
 let e:=lgE ww st i
 let l:=e.2.buf++e.1.box 0
 if i=1 then l.contains 1&&l.contains 3 else if i=2 then l.contains 3 else e.2.buf.isEmpty&&doneM e.2
def lgFacts (ww st:Nat):Bool :=
 decide (1≤(lgA ww st).2.res.length)&&((List.range 3).all fun i=>(lgQ ww st (i+1)).1.B.all)&&((List.range 4).all fun i=>doneM (lgE ww st i).2)&&((List.range 4).all fun i=>decide ((lgQ ww st i).1.B.count=i)) &&
  ((List.range 4).all fun i=>decide ((lgE ww st i).1.boxes.length=1))&&((List.range 4).all fun i=>decide (((lgE ww st i).1.box 0).length≤10)&&decide ((lgE ww st i).2.buf.length≤10))
end
section
open Go.RowKit
attribute [local go_sem] Oper.semAt_some
set_option maxRecDepth 100000 in
set_option maxHeartbeats 1000000 in
theorem back_seq2 (xs:List Nat) (pB X off cap:Nat) (hn:xs.length≤4096) (m:Nat) (w:World) (cs:List Value) (hbp:Blk w pB [.slice (some ⟨X,off,none⟩) xs.length cap] 32) (hbx:Blk w X cs 3) (hcs:∀ q,q<xs.length→cs[off+q]?=some (.int .i64 ((xs.getD q 0:Nat):Int))) :
 SeqL Fence.wide m Tryz.prog 170 #[.pointer (some ⟨pB,0,none⟩)] (backL xs) EncS (backG pB X) w:=by
 intro l J Jx W hW hJ hJx hY h0
 have hbp1:=hW.blk hbp (fun f=>f)
 have hbx1:=hW.blk hbx (fun f=>f)
 have hc0:=hbp1.cell 0 (v := .slice (some ⟨X,off,none⟩) xs.length cap) rfl
 have HLEN:=Lib.hid (backL_len xs)
 have HAT:Hid (∀ j q,j+q+1=xs.length→(backL xs)[j]?=some (q,xs.getD q 0)):=fun j q e=>by
  rw [backL_at (by omega),show xs.length - 1 - j=q by omega]
 have HV:Hid (∀ q wr,q<xs.length→Blk wr X cs 3→wr.cell? ⟨X,off+q,none⟩=some (.int .i64 ((xs.getD q 0:Nat):Int))):=fun q wr hq hb=>hb.cell (off+q) (hcs q hq)
 have hnI:(xs.length:Int)≤4096:=by omega
 have hw0:IntKind.i64.wrap ((xs.length:Int) - 1)=(xs.length:Int) - 1:=IntWalk.i64_in _ (by omega)
 generalize backL xs=L at *
 obtain ⟨at_,hat⟩:∃ f:Nat→Nat,f=fun q=>xs.getD q 0:=⟨_,rfl⟩
 have HAT2:Hid (∀ j q,j+q+1=xs.length→L[j]?=some (q,at_ q)):=fun j q e=>by rw [hat];exact HAT.out j q e
 have HV2:Hid (∀ q wr,q<xs.length→Blk wr X cs 3→wr.cell? ⟨X,off+q,none⟩=some (.int .i64 ((at_ q:Nat):Int))):=fun q wr h1 h2=>by rw [hat];exact HV.out q wr h1 h2
 clear HAT HV hat hbx hbp hcs
 generalize xs.length=n at *
 refine callsIn_of_wp Tryz.func170 rfl trivial ?_ rfl
 simp only [Tryz.ntmps170,List.size_toArray,List.length_cons,List.length_nil,Nat.reduceAdd,Nat.reduceSub,Array.replicate_succ,Array.replicate_zero,List.push_toArray,List.append_toArray,List.nil_append,List.cons_append]
 gi_wp2_with fail
 gi_loopw [3] (fun v wr=>∃ (j:Nat) (i:Int),j≤n∧i=(n:Int) - 1 - j∧v = .int .i64 i∧J j wr∧Holds (backG pB X) W wr) (fun v _=>(intOf v+1).toNat)
 case atStart=>exact ⟨0,_,by omega,by omega,rfl,h0,Holds.refl _ _⟩
 case round =>
  obtain ⟨j,i,hj,hi,rfl,hJj,hH⟩:=hrel
  have b1:=hH.blk (.inl rfl) hbp1
  have b2:=hH.blk (.inr rfl) hbx1
  have c1:=b1.cell 0 (v := .slice (some ⟨X,off,none⟩) n cap) rfl
  by_cases hlt:j<n
  ·obtain ⟨q,rfl⟩:∃ q:Nat,i=(q:Int):=⟨i.toNat,by omega⟩
   have hq:j+q+1=n:=by omega
   have hqn:q<n:=by omega
   have hq0:(0:Int)≤(q:Int):=by omega
   have hqI:(q:Int)<(n:Int):=by omega
   have c2:=HV2.out q wr hqn b2
   have hL:=HAT2.out j q hq
   have hwq:IntKind.i64.wrap ((q:Int) - 1)=(q:Int) - 1:=IntWalk.i64_in _ (by omega)
   generalize at_ q=x at *
   have HY:=Lib.hid hY
   have HJ:=Lib.hid hJj
   have HQ:=Lib.hid hq
   clear hY hJj hi hq
   obtain ⟨fn,tmps,assign,body,hy,hR⟩:=HY.out j (q,x) #[.int .i64 (q:Int),.int .i64 (x:Int)] wr hL HJ.out rfl
   gi_wp2_with fail
   refine ⟨fun h=>(by cases h),hR.mono ?_⟩
   rintro e W' (⟨rfl,hJ',hk⟩|⟨rfl,hJx'⟩)
   ·gi_wp2_with fail
    go_roundw
    case rel=>exact ⟨j+1,(q:Int) - 1,by omega,by have:=HQ.out;omega,by go_num,hJ',hH.trans hk⟩
    case measure=>simp [intOf]<;>omega
   ·gi_wp2_with fail
    refine bodyPost_ret (results_none rfl _ _ _) rfl ?_
    exact ⟨⟨_,rfl⟩,.inr ⟨j+1,by rw [HLEN.out];omega,hJx'⟩⟩
  ·clear hY
   obtain rfl:i = -1:=by omega
   have HJE:Hid (j=n):=by unfold Hid;omega
   clear hi
   gi_wp2_with fail
   go_end0
   exact ⟨⟨_,rfl⟩,.inl (by rw [HLEN.out,← HJE.out];exact hJj)⟩
end
section
open Go.RowKit
attribute [local go_sem] Oper.semAt_some
section
variable {w w':World} {D:Nat→Nat} {H:HS}
theorem putL_snoc:∀ (l:List Nat) (H:HS) (a:Nat),H.putL (l++[a])=(H.putL l).putP a
 | [],_,_=>rfl
 | b::l,H,a=>putL_snoc l (H.putP b) a
structure SkI (w:World) (D:Nat→Nat) (N b g:Nat) (cs:List Value) (H:HS) (xs:List Nat) (j:Nat) (W:World):Prop where
 keep:Keep (HF D) w W
 heap:HeapAt W D (H.putL ((xs.reverse).take j))
 hb:Blk W b [.pointer (some ⟨D 0,0,none⟩)] 47
 hg:Blk W g cs 3
 big:N≤W.heap.size
theorem SkI.own {N b g:Nat} {cs:List Value} {xs:List Nat} {B:Nat} (hB:w.heap.size≤B) (hD:∀ i,i<13→D i<B) (hg:3<B∧4<B∧2<B):OwnFrom B (SkI w D N b g cs H xs):=by
 rintro j W W' row ⟨h1,h2,h3,h4,hN⟩ hgr hr
 have k:Keep (fun i=>row=some i) W W':=⟨hgr.os,hgr.tape,hgr.output,hgr.size,fun x hx n=>hgr.block x hx (fun e=>n e.symm)⟩
 have hne:∀ i,i<B→¬ row=some i:=fun i hi e=>by have:=(hr i e).1;omega
 exact ⟨ownFrom_keep (β:=Nat) hB j W W' row h1 hgr hr,h2.keep k (fun i hi=>hne _ (hD i hi)) (hne _ hg.1) (hne _ hg.2.1) (hne _ hg.2.2),ownFrom_blk (β:=Nat) (cs:=fun _=>_) j W W' row h3 hgr hr,ownFrom_blk (β:=Nat) (cs:=fun _=>_) j W W' row h4 hgr hr,Nat.le_trans hN hgr.size⟩
set_option maxRecDepth 4000 in
set_option maxHeartbeats 1000000 in
theorem hSlot_take (h:HeapAt w D H) (k:Nat) (hk:k<4) (ht:(H.takeP k).2.1=0):Calls Tryz.prog 114 #[.pointer (some ⟨D 0,0,none⟩),.int .i64 (k:Int)] w fun e w'=>e = .returned (.tuple #[.int .i64 ((H.slotP k).1:Int),.int .i64 ((H.slotP k).2.1:Int)])∧HeapAt w' D (H.slotP k).2.2∧Keep (HF D) w w':=by
 have e:H.slotP k=((H.takeP k).1,0,(H.takeP k).2.2):=by unfold HS.slotP;rw [if_pos ht]
 rw [e]
 have HT:Hid (∀ x,Calls Tryz.prog 159 #[.pointer (some ⟨D 0,0,none⟩),.int .i64 (k:Int)] (w.alloc x) fun e w'=>e = .returned (.tuple #[.int .i64 ((H.takeP k).1:Int),.int .i64 0])∧HeapAt w' D (H.takeP k).2.2∧Keep (HF D) w w'):=fun x=>by
  have k1:Keep none_ w (w.alloc x):=(Keep.refl _ _).alloc x
  refine (hTake_any (h.still k1) k hk).mono ?_
  rintro e w' ⟨rfl,h1,k2⟩
  rw [ht]
  exact ⟨rfl,h1,(k1.mono (fun _ _ f=>f.elim)).trans k2⟩
 generalize (H.takeP k).1=a at *
 generalize (H.takeP k).2.2=H2 at *
 clear h ht e
 go_enter Tryz.func114,Tryz.ntmps114
 go_wp2_with fail
 refine (HT.out _).mono ?_
 rintro e w1 ⟨rfl,h1,k1⟩
 have HE:=Lib.hid (And.intro h1 k1)
 clear h1 k1 HT
 go_wp2_with fail
 go_ret2
 exact ⟨rfl,HE.out.1,HE.out.2⟩
set_option maxRecDepth 100000 in
set_option maxHeartbeats 4000000 in
theorem hSlot_assign (h:HeapAt w D H) (k:Nat) (hk:k<4) (ht:(H.takeP k).2.1≠0) (ha:(H.assignP k).2.1=0) (h2:2≤(H.assignP k).1.length) (h4:(H.assignP k).1.length≤256):Calls Tryz.prog 114 #[.pointer (some ⟨D 0,0,none⟩),.int .i64 (k:Int)] w fun e w'=>e = .returned (.tuple #[.int .i64 ((H.slotP k).1:Int),.int .i64 ((H.slotP k).2.1:Int)])∧HeapAt w' D (H.slotP k).2.2∧Keep (HF D) w w':=by
 have e:H.slotP k=((H.assignP k).1.headD 0,0,((H.assignP k).2.2).putL (H.assignP k).1.tail.reverse):=by unfold HS.slotP;rw [if_neg ht,if_pos ha]
 rw [e]
 have ht12:(H.takeP k).2.1=12∧(H.takeP k).2.2=H:=by
  unfold HS.takeP at ht ⊢
  split
  ·exact ⟨rfl,rfl⟩
  ·rename_i e;rw [e] at ht;exact absurd rfl ht
 obtain ⟨W0,hW0⟩:∃ W0,W0=w.alloc (.cells #[.pointer (some ⟨D 0,0,none⟩)] 47):=⟨_,rfl⟩
 have k0:Keep none_ w W0:=by rw [hW0];exact (Keep.refl _ _).alloc _
 have hb0:Blk W0 w.heap.size [.pointer (some ⟨D 0,0,none⟩)] 47:=by rw [hW0];exact Blk.new w _ _
 have hDw:∀ i,i<13→D i<w.heap.size:=h.ltD
 have HGL0:=h.gloLt
 have HT:=Lib.hid (hTake_any (h.still k0) k hk)
 rw [ht12.1,ht12.2] at HT
 have HA:Hid (∀ W,HeapAt W D H→Calls Tryz.prog 160 #[.pointer (some ⟨D 0,0,none⟩),.int .i64 (k:Int)] W fun e w'=>∃ v,e = .returned (.tuple #[v,.int .i64 0])∧w'.ownsRow W.heap.size 3 1 v (H.assignP k).1.length (tabV (H.assignP k).1)∧HeapAt w' D (H.assignP k).2.2∧Keep (HF D) W w'):=fun W hW=>by
  have h9:=hAssign_any hW k hk
  rw [ha] at h9
  exact h9
 generalize (H.assignP k).2.2=H2 at *
 obtain ⟨x0,xs,hall⟩:∃ x0 xs,(H.assignP k).1=x0::xs:=by
  cases hh:(H.assignP k).1 with
  | nil=>rw [hh] at h2;simp at h2
  | cons x l=>exact ⟨x,l,rfl⟩
 rw [hall] at HA h2 h4 ⊢
 simp only [List.length_cons,List.headD_cons,List.tail_cons] at HA h2 h4 ⊢
 have hx1:1≤xs.length∧xs.length≤255:=by omega
 have HXL:=Lib.hid hx1
 have HW0:=Lib.hid hW0
 have HK0:=Lib.hid k0
 have HB0:=Lib.hid hb0
 have HDW:=Lib.hid hDw
 have HGL:=Lib.hid HGL0
 clear h ht ha e ht12 hall h2 h4 hW0 k0 hb0 hDw HGL0 hx1
 refine (callsIn_wide (n:=9)).1 ?_
 refine callsIn_of_wp_marks Tryz.func114 rfl trivial ?_ rfl
 refine wpIn_wide.2 ?_
 simp only [Tryz.ntmps114,List.size_toArray,List.length_cons,List.length_nil,Nat.reduceAdd,Nat.reduceSub,Array.replicate_succ,Array.replicate_zero,List.push_toArray,List.append_toArray,List.nil_append,List.cons_append]
 go_wp2_with fail
 rw [← HW0.out]
 refine HT.out.mono ?_
 rintro e w1 ⟨rfl,h1,k1⟩
 have kb:∀ i,i<13→w.heap.size≠D i:=fun i hi=>by have:=HDW.out i hi;omega
 have hb1:Blk w1 w.heap.size [.pointer (some ⟨D 0,0,none⟩)] 47:=k1.blk HB0.out (fun ⟨i,hi,e⟩=>kb i hi e)
 have c1:w1.cell? ⟨w.heap.size,0,none⟩=some (.pointer (some ⟨D 0,0,none⟩)):=hb1.cell 0 rfl
 have HA1:=Lib.hid (HA.out w1 h1)
 have HK1:Hid (Keep (HF D) w w1):=(HK0.out.mono (fun _ _ f=>f.elim)).trans k1
 have HB1:=Lib.hid hb1
 have HS1:Hid (w.heap.size<w1.heap.size):=hb1.lt
 clear h1 k1 hb1 HT HA HB0 kb
 go_wp2_with fail
 refine HA1.out.mono ?_
 rintro e w2 ⟨v,rfl,hown,h2,k2⟩
 obtain ⟨g,cap,cur,rfl,hg0,hg,hnc,hcc⟩:∃ g cap cur,v = .slice (some ⟨g,0,none⟩) (xs.length+1) cap∧w1.heap.size≤g∧Blk w2 g cur 3∧xs.length+1≤cap∧∀ j u,(tabV (x0::xs))[j]?=some u→cur[j]?=some u:=by
  rcases hown.2 with ⟨_,h0⟩|⟨g,cap,cur,e1,hg0,hg,hn,_,hs,hc⟩
  ·omega
  ·refine ⟨g,cap,cur.toList,e1,hg0,by unfold Blk;simpa using hg,hn,fun j u hj=>?_⟩
   have h9:=hj
   rw [← hc] at h9
   have hlt:=(List.getElem?_eq_some_iff.1 h9).1
   rw [List.getElem?_take_of_lt (by simp at hlt;omega)] at h9
   exact h9
 have hcut:∀ w,(Instr.slice 32 (.slice (some ⟨g,0,none⟩) (xs.length+1) cap) (some (.int .i64 1)) none none).run Tryz.prog w = .ok (.slice (some ⟨g,1,none⟩) xs.length (cap - 1)) w:=fun w=>by
  have h9:=run_cut (P:=Tryz.prog) (T:=32) (e:=3) (by kernel_rfl) (by kernel_rfl) (some ⟨g,0,none⟩) (xs.length+1) cap 1 (by omega) w
  have e1:cutA (some ⟨g,0,none⟩) cap 1=some ⟨g,1,none⟩:=by
   unfold cutA
   rw [if_neg (by have:=HXL.out;omega)]
   simp [Addr.add]
  rw [e1,Nat.add_sub_cancel] at h9
  exact h9
 have hb2:Blk w2 w.heap.size [.pointer (some ⟨D 0,0,none⟩)] 47:=k2.blk HB1.out (fun ⟨i,hi,e⟩=>by have:=HDW.out i hi;omega)
 have hs2:=k2.size
 have hs1:=HS1.out
 obtain ⟨W3,hW3⟩:∃ W3,W3=w2.alloc (.cells #[.slice (some ⟨g,1,none⟩) xs.length (cap - 1)] 32):=⟨_,rfl⟩
 have k3:Keep none_ w2 W3:=by rw [hW3];exact (Keep.refl _ _).alloc _
 have hb3:Blk W3 w2.heap.size [.slice (some ⟨g,1,none⟩) xs.length (cap - 1)] 32:=by rw [hW3];exact Blk.new w2 _ _
 have e3:W3.heap.size=w2.heap.size+1:=by rw [hW3];simp
 have hglt:=hg.lt
 have HSEQ:Hid (SeqL Fence.wide 8 Tryz.prog 170 #[.pointer (some ⟨w2.heap.size,0,none⟩)] (backL xs) EncS (backG w2.heap.size g) W3):=back_seq2 xs w2.heap.size g 1 (cap - 1) (by have:=HXL.out;omega) 8 W3 cur hb3 (k3.blk hg (fun f=>f)) (fun q hq=>by
  refine hcc (1+q) _ ?_
  rw [Nat.add_comm]
  unfold tabV
  rw [List.map_cons,List.getElem?_cons_succ,List.getElem?_map,List.getElem?_eq_getElem hq,List.getD_eq_getElem?_getD,List.getElem?_eq_getElem hq];rfl)
 have HI0:Hid (SkI w D W3.heap.size w.heap.size g cur H2 xs 0 W3):=⟨(HK1.out.trans k2).trans (k3.mono (fun _ _ f=>f.elim)),by rw [List.take_zero];exact h2.still k3,k3.blk hb2 (fun f=>f),k3.blk hg (fun f=>f),Nat.le_refl _⟩
 have HGX:Hid (∀ i,backG w2.heap.size g i→i<W3.heap.size∧∀ j,j<13→i≠D j):=by
  rintro i (rfl|rfl)
  ·exact ⟨by omega,fun j hj e=>by have:=HDW.out j hj;omega⟩
  ·exact ⟨by omega,fun j hj e=>by have:=HDW.out j hj;omega⟩
 have HOWN:Hid (OwnFrom W3.heap.size (SkI w D W3.heap.size w.heap.size g cur H2 xs)):=SkI.own (by omega) (fun i hi=>by have:=HDW.out i hi;omega) (by have:=HGL.out;omega)
 have HC0:Hid (cur[0]?=some (.int .i64 (x0:Int))):=hcc 0 _ rfl
 have HGD:Hid (w.heap.size<g∧w.heap.size<W3.heap.size):=⟨by omega,by omega⟩
 have HW3:=Lib.hid hW3
 have c2:w2.cell? ⟨w.heap.size,0,none⟩=some (.pointer (some ⟨D 0,0,none⟩)):=hb2.cell 0 rfl
 clear hown h2 k2 hg0 hg hcc hb2 hs2 hs1 k3 hb3 e3 hglt hW3 HA1 HK1 HB1 HS1 c1
 go_wp2_with fail
 refine (bwNew_any _ _ _ _).mono ?_
 rintro e w4 ⟨rfl,hw4⟩
 rw [← HW3.out] at hw4
 subst hw4
 clear c2 hcut
 go_wp2_with fail
 refine wpIn_wide (n:=9) |>.1 ?_
 refine rangeFn rfl (by decide) (gf:=170) (lb:=#[.pointer (some ⟨w2.heap.size,0,none⟩)]) rfl trivial (fun args w=>by simp [callFunc,Tryz.func170,go_sem];rfl) (all:=backL xs) (Enc:=EncS) (G:=backG w2.heap.size g)
  HSEQ.out ?hG ?hps (fun j W=>SkI w D w4.heap.size w.heap.size g cur H2 xs j W) (fun _ _ _=>False) ?hI ?hIx ?h0 ?round ?done ?stop
 case hI=>exact HOWN.out
 case hIx=>exact fun c s W W' row h hg hr=>h
 case h0=>exact HI0.out
 case hG=>exact fun i hi=>(HGX.out i hi).1
 case hps =>
  rintro W x args h
  rw [h];rfl
 case stop=>exact fun D c k W hD hk h=>h.elim
 case round =>
  rintro l j x args W hx henc hI
  have hj:j<xs.length:=by
   have h:=(List.getElem?_eq_some_iff.1 hx).1
   rwa [backL_len] at h
  rw [backL_at hj] at hx
  injection hx with hx
  subst hx
  obtain ⟨x,hx⟩:∃ x,x=xs.getD (xs.length - 1 - j) 0:=⟨_,rfl⟩
  obtain ⟨y,hy⟩:∃ y:Nat,y=xs.length - 1 - j:=⟨_,rfl⟩
  obtain rfl:args=#[.int .i64 (y:Int),.int .i64 (x:Int)]:=by rw [hx,hy];exact henc
  have hsn:(xs.reverse).take (j+1)=(xs.reverse).take j++[x]:=by
   rw [List.take_add_one,List.getElem?_reverse hj,hx,List.getD_eq_getElem?_getD]
   rw [List.getElem?_eq_getElem (by omega)];rfl
  have HSN:=Lib.hid hsn
  clear hx hy henc hsn
  have HI:=Lib.hid hI
  clear hI
  gi_wp2_with fail
  refine ⟨fun W=>SkI w D w4.heap.size w.heap.size g cur H2 xs j W,KeepsFrom.refl _ _,Holds.refl _ _,HI.out,(fun _ W' W'' row h hg hr=>HOWN.out j W' W'' row h hg hr),?_⟩
  clear HI
  rintro W2 hI
  have c2:W2.cell? ⟨w.heap.size,0,none⟩=some (.pointer (some ⟨D 0,0,none⟩)):=hI.hb.cell 0 rfl
  have HP:=Lib.hid (hPut_any hI.heap x)
  have HI:=Lib.hid hI
  clear hI
  gi_wp2_with fail
  refine ⟨trivial,CallsIn.mono (CallsIn.inRound l (callsIn_wide.2 HP.out)) ?_⟩
  rintro e w5 ⟨⟨er,rfl⟩,h5,k5⟩
  have HEND:Hid (KeepsFrom w4.heap.size W2 w5∧Holds (backG w2.heap.size g) W2 w5∧SkI w D w4.heap.size w.heap.size g cur H2 xs (j+1) w5):=by
   have hbig:=HI.out.big
   refine ⟨⟨k5.size,fun i oo hB hq ho=>(k5.block i (Array.getElem?_eq_some_iff.1 hq).1 (fun ⟨q,hq2,e⟩=>by have:=HDW.out q hq2;have:=HGD.out;omega)).trans hq⟩,?_,HI.out.keep.trans k5,?_,k5.blk HI.out.hb (fun ⟨i,hi,e⟩=>by have:=HDW.out i hi;omega),k5.blk HI.out.hg (fun ⟨i,hi,e⟩=>by have:=HDW.out i hi;have:=HGD.out;omega),Nat.le_trans hbig k5.size⟩
   ·exact Holds.ofKeep k5 (fun i hi=>⟨Nat.lt_of_lt_of_le (HGX.out i hi).1 hbig,fun ⟨q,hq,e⟩=>(HGX.out i hi).2 q hq e⟩)
   ·rw [HSN.out,putL_snoc];exact h5
  clear h5 k5 HP c2
  gi_wp2_with fail
  exact ⟨HEND.out.1,HEND.out.2.1,HEND.out.2.2⟩
 case done =>
  rintro D5 W hD hI hKd
  rw [backL_len] at hI
  have c0:W.cell? ⟨g,0,none⟩=some (.int .i64 (x0:Int)):=hI.hg.cell 0 HC0.out
  have HEND:Hid (HeapAt (W.putObj D5 (.deferred none)) D (H2.putL xs.reverse)∧Keep (HF D) w (W.putObj D5 (.deferred none))):=by
   have hk9:Keep (fun i=>i=D5) W (W.putObj D5 (.deferred none)):=⟨rfl,rfl,rfl,by simp,fun q _ n=>World.putObj_heap_other n⟩
   have h9:=hI.heap
   rw [List.take_of_length_le (by simp)] at h9
   refine ⟨h9.keep hk9 (fun i hi e=>by have:=HDW.out i hi;have:=HGD.out;omega) (fun e=>by have:=HGL.out;have:=HGD.out;omega) (fun e=>by have:=HGL.out;have:=HGD.out;omega) (fun e=>by have:=HGL.out;have:=HGD.out;omega),hI.keep.takeDeferred (D:=D5) (by have:=HGD.out;omega) (.deferred none)⟩
  clear hI
  go_wp2_with fail
  refine ⟨by simp,.inl ⟨_,_,rfl,run_takeDeferred hKd,?_⟩⟩
  exact ⟨.tuple #[.int .i64 (x0:Int),.int .i64 0],by simp [results,Tryz.f114,go_sem],rfl,HEND.out.1,HEND.out.2⟩
end
end
end Go.Proofs.YtanfphjoebobaaaGreatDoor
