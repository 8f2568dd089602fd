/- Parts of a walk, put together and made shorter by a program of mine. No conditions. -/
import Derived.Test.YtanfphjoebobaaaGreatDoorZzcad
import Derived.Test.YtanfphjoebobaaaGreatDoorZzcab
import Derived.Test.YtanfphjoebobaaaGreatDoorZzcy
import Derived.Test.YtanfphjoebobaaaGreatDoorZzco
import Derived.Test.YtanfphjoebobaaaGreatDoorZzcq
import Derived.Test.YtanfphjoebobaaaGreatDoorZzcr
namespace Go.Proofs.YtanfphjoebobaaaGreatDoor
set_option maxRecDepth 100000
set_option maxHeartbeats 4000000
section
open Go.RowKit
section
variable {o o':Ow} {w w' W W':World} {G:Geo} {g:MG} {q:CG} {s s':Sh} {m:MS} {c:CS} {ev:Option Ev} {nv:Value} {I:List Nat}
theorem Keep.Fq (k0:Keep none_ w W) (k:Keep (In o I) W W') (h0:I.contains 0=false) (h9:I.contains 49=false) (hz:∀ x,x<w.heap.size→o x=0∨o x=49):Keep none_ w W' :=
 k0.trans' k (fun i hi hin=>(hz i hi).elim (fun e=>absurd hin (aU e h0)) (fun e=>absurd hin (aU e h9)))
theorem MAt.jE (h:MAt o w G g s m ev nv) (k:Keep (In o I) w w') (h0:I.contains 0=false) (hi:I.contains (20+m.id)=false) (e:aH w o o') (hs:ShAt o' w' G s') (hl:s'.boxes.length=s.boxes.length) (hc:s'.H.c=s.H.c):MAt o' w' G g s' m ev nv:=by
 obtain ⟨pv,rv,h1,h2,h3⟩:=h.blk
 have k':=k.nS e
 obtain ⟨_,v,hb,_⟩:=id h.buf
 exact ⟨hs,⟨pv,rv,h1.ay k h.oM hi,(h2.ext e).ay k' h0,(h3.ext e).ay k' hi⟩,(e _ h1.lt).trans h.oM,h.regs.ay k h.oX hi,(e _ h.regs.lt).trans h.oX,(h.buf.ext e).ay k' h0 ((e _ hb.lt).trans h.oBf) hi,(e _ hb.lt).trans h.oBf,h.nt.ay k h.oNt h0,(e _ h.nt.lt).trans h.oNt,by rw [hl];exact h.idl,by rw [hl];exact h.box8,h.conf.trans hc.symm,h.rlen,h.qF⟩
theorem jf.jE (h:jf o w G g s m) (k:Keep (In o I) w w') (h0:I.contains 0=false) (hi:I.contains (20+m.id)=false) (hj:I.contains (30+m.id)=false) (e:aH w o o') (hs:ShAt o' w' G s') (hl:s'.boxes.length=s.boxes.length) (hc:s'.H.c=s.H.c):jf o' w' G g s' m:=by
 obtain ⟨ev,nv,h1,hn⟩:=h
 exact ⟨ev,nv,h1.jE k h0 hi e hs hl hc,(hn.ext e).ay (k.nS e) h0 hj⟩
theorem CAt.jE (h:CAt o w G q s c ev nv) (k:Keep (In o I) w w') (h5:I.contains 5=false) (e:aH w o o') (hs:ShAt o' w' G s') (hl:s'.boxes.length=s.boxes.length):CAt o' w' G q s' c ev nv:=by
 obtain ⟨v,h1,_⟩:=id h.stk
 have oK:=(e _ h1.lt).trans h.oK
 exact ⟨hs,h.blk.ay k h.oC h5,(e _ h.blk.lt).trans h.oC,(h.stk.ext e).ay oK (k.nS e) h5,oK,by rw [hl];exact h.box8⟩
theorem eY.jE (h:eY o w G q s c) (k:Keep (In o I) w w') (h0:I.contains 0=false) (h5:I.contains 5=false) (h40:I.contains 40=false) (e:aH w o o') (hs:ShAt o' w' G s') (hl:s'.boxes.length=s.boxes.length):eY o' w' G q s' c:=by
 obtain ⟨ev,nv,h1,hn⟩:=h
 exact ⟨ev,nv,h1.jE k h5 e hs hl,(hn.ext e).ay (k.nS e) h0 h40⟩
theorem jf.sh (h:jf o w G g s m):ShAt o w G s:=by
 obtain ⟨ev,nv,h1,_⟩:=h
 exact h1.sh
theorem jf.idl (h:jf o w G g s m):m.id<s.boxes.length∧s.boxes.length≤8:=by
 obtain ⟨ev,nv,h1,_⟩:=h
 exact ⟨h1.idl,h1.box8⟩
theorem eY.sh (h:eY o w G q s c):ShAt o w G s:=by
 obtain ⟨ev,nv,h1,_⟩:=h
 exact h1.sh
theorem eY.box8 (h:eY o w G q s c):s.boxes.length≤8:=by
 obtain ⟨ev,nv,h1,_⟩:=h
 exact h1.box8
structure CW (w W:World) (o:Ow) (G:Geo) (gs:List MG) (q:CG) (x:WS):Prop where
 coll:eY o W G q x.s x.coll
 len:gs.length=x.muts.length
 bV:∀ (i:Nat) g m,gs[i]?=some g→x.muts[i]?=some m→jf o W G g x.s m∧m.id=i
 low:∀ b,b<w.heap.size→o b=0∨o b=49
 keep:Keep none_ w W
variable {gs:List MG} {x y:WS}
theorem CW.nG (h:CW w W o G gs q x) (k:Keep none_ W W'):CW w W' o G gs q x :=
 ⟨h.coll.still k,h.len,fun i g m h1 h2=>⟨(h.bV i g m h1 h2).1.still k,(h.bV i g m h1 h2).2⟩,h.low,h.keep.trans k⟩
theorem CW.qV (h:CW w W o G gs q x) (k:Keep (In o I) W W') (hI:I.all (fun i=>decide (50≤i))=true) (e:aH W o o') (hf:Fut o' W'):CW w W' o' G gs q x:=by
 have hge:∀ i,i<50→I.contains i=false:=fun i hi=>by
  rw [Bool.eq_false_iff]
  intro hc
  have:=List.all_eq_true.1 hI i (by simpa using hc)
  simp at this;omega
 have hs:ShAt o' W' G x.s:=h.coll.sh.move k (List.all_eq_true.2 (fun i hi=>by have:=List.all_eq_true.1 hI i hi;simp at this ⊢;omega)) h.coll.box8 e hf
 refine ⟨h.coll.jE k (hge 0 (by decide)) (hge 5 (by decide)) (hge 40 (by decide)) e hs rfl,h.len,fun i g m h1 h2=>?_,fun b hb=>by rw [e b (Nat.lt_of_lt_of_le hb h.keep.size)];exact h.low b hb,h.keep.Fq k (hge 0 (by decide)) (hge 49 (by decide)) h.low⟩
 obtain ⟨g1,g2⟩:=h.bV i g m h1 h2
 have:=g1.idl
 exact ⟨g1.jE k (hge 0 (by decide)) (hge _ (by omega)) (hge _ (by omega)) e hs rfl rfl,g2⟩
theorem CW.tell (h:CW w W o G gs q x) (hy:y.s=x.s∧y.muts=x.muts∧y.coll=x.coll):CW w W o G gs q y:=by
 obtain ⟨e1,e2,e3⟩:=hy
 exact ⟨by rw [e1,e3];exact h.coll,by rw [e2];exact h.len,by rw [e1,e2];exact h.bV,h.low,h.keep⟩
theorem CW.pick {N:Nat} (h:CW w W o G gs q x) (ok:WOk N x) (hN:N≤1000000000) {i:Nat} {m:MS} (hg:gs[i]?=some g) (hm:x.muts[i]?=some m) (hst:wL m.next):Calls Tryz.prog 24 #[.pointer (some ⟨g.M,0,none⟩)] W fun e W'=>e = .returned (.tuple #[lC (aQ x.s m).2.2,jQ (aQ x.s m).2.2])∧∃ o',aH W o o'∧CW w W' o' G gs q (bC x i)∧Keep (In o (bg i)) W W':=by
 obtain ⟨g1,g2⟩:=h.bV i g m hg hm
 obtain ⟨k1,k2⟩:=ok.bV i m hm
 refine (NK g1 k2 hN hst).mono ?_
 rintro e W' ⟨o',rfl,eo,hq,k⟩
 have hsh:=Fp x.s m
 have Vz:=Ik k2
 have Tz:=g1.idl
 rw [g2] at k Tz
 have h0:=je i
 have h5:(bg i).contains 5=false:=by simp [bg];omega
 have h40:(bg i).contains 40=false:=by simp [bg];omega
 refine ⟨rfl,o',eo,?_,k⟩
 have ew:bC x i=({ x with s:=(aQ x.s m).1,muts:=x.muts.set i (aQ x.s m).2.1 }:WS).tell (aQ x.s m).2.2:=by
  unfold bC
  rw [hm]
 rw [ew]
 have hcw:CW w W' o' G gs q { x with s:=(aQ x.s m).1,muts:=x.muts.set i (aQ x.s m).2.1 }:=by
  refine ⟨h.coll.jE k h0 h5 h40 eo hq.sh hsh.bl,by show gs.length=(x.muts.set i _).length;rw [List.length_set];exact h.len,fun j g' m' h1 h2=>?_,fun b hb=>by rw [eo b (Nat.lt_of_lt_of_le hb h.keep.size)];exact h.low b hb,h.keep.Fq k h0 (by simp [bg];omega) h.low⟩
  by_cases hij:i=j
  ·subst hij
   have hlt:=(List.getElem?_eq_some_iff.1 hm).1
   have h2':(x.muts.set i (aQ x.s m).2.1)[i]?=some m':=h2
   rw [List.getElem?_set_self hlt] at h2'
   cases h2'
   rw [hg] at h1
   cases h1
   exact ⟨hq,Vz.2.2.1.trans g2⟩
  ·have h2':(x.muts.set i (aQ x.s m).2.1)[j]?=some m':=h2
   rw [List.getElem?_set_ne hij] at h2'
   obtain ⟨g3,g4⟩:=h.bV j g' m' h1 h2'
   have hj:=g3.idl
   exact ⟨g3.jE k h0 (by rw [g4];rw [g4] at hj;simp [bg];omega) (by rw [g4];rw [g4] at hj;simp [bg];omega) eo hq.sh hsh.bl hsh.c,g4⟩
 obtain ⟨e1,e2,e3,_⟩:=WS.l7 { x with s:=(aQ x.s m).1,muts:=x.muts.set i (aQ x.s m).2.1 } (aQ x.s m).2.2
 exact hcw.tell ⟨e1,e2,e3⟩
theorem CW.Qg {N:Nat} (h:CW w W o G gs q x) (ok:WOk N x) (hN:N≤1000000000):Calls Tryz.prog 12 #[.pointer (some ⟨q.C,0,none⟩)] W fun e W'=>e = .returned (.tuple #[lC (aW x.s x.coll).ev,jQ (aW x.s x.coll).ev])∧∃ o',aH W o o'∧CW w W' o' G gs q (bC x x.muts.length)∧Keep (In o aK) W W':=by
 refine (NG h.coll ok.coll hN).mono ?_
 rintro e W' ⟨o',rfl,eo,hq,k⟩
 have hsh:=Qe x.s x.coll
 refine ⟨rfl,o',eo,?_,k⟩
 have ew:bC x x.muts.length=({ x with s:=(aW x.s x.coll).s,coll:=(aW x.s x.coll).c }:WS).tell (aW x.s x.coll).ev:=by
  unfold bC
  rw [List.getElem?_eq_none (Nat.le_refl _)]
  simp only [if_true]
 rw [ew]
 have hcw:CW w W' o' G gs q { x with s:=(aW x.s x.coll).s,coll:=(aW x.s x.coll).c }:=by
  refine ⟨hq,h.len,fun j g' m' h1 h2=>?_,fun b hb=>by rw [eo b (Nat.lt_of_lt_of_le hb h.keep.size)];exact h.low b hb,h.keep.Fq k dM (by decide) h.low⟩
  obtain ⟨g3,g4⟩:=h.bV j g' m' h1 h2
  have hj:=g3.idl
  exact ⟨g3.jE k dM (by simp [aK];omega) (by simp [aK];omega) eo hq.sh hsh.bl hsh.c,g4⟩
 obtain ⟨e1,e2,e3,_⟩:=WS.l7 { x with s:=(aW x.s x.coll).s,coll:=(aW x.s x.coll).c } (aW x.s x.coll).ev
 exact hcw.tell ⟨e1,e2,e3⟩
theorem CW.wish (h:CW w W o G gs q x):Calls Tryz.prog 14 #[.pointer (some ⟨q.C,0,none⟩)] W fun e W'=>e = .returned (.tuple #[])∧CW w W' o G gs q (bC x (x.muts.length+1))∧Keep (In o [5]) W W':=by
 refine (NS h.coll).mono ?_
 rintro e W' ⟨rfl,hq,k⟩
 refine ⟨rfl,?_,k⟩
 have ew:bC x (x.muts.length+1)=({ x with coll:={ x.coll with wish:=true } }:WS).tell none:=by
  unfold bC
  rw [List.getElem?_eq_none (by omega)]
  simp only
  rw [if_neg (by omega)]
 rw [ew]
 have hcw:CW w W' o G gs q { x with coll:={ x.coll with wish:=true } }:=by
  refine ⟨hq,h.len,fun j g' m' h1 h2=>?_,h.low,h.keep.Fq k rfl rfl h.low⟩
  obtain ⟨g3,g4⟩:=h.bV j g' m' h1 h2
  have hj:=g3.idl
  exact ⟨g3.jE k rfl (by simp;omega) (by simp;omega) (aH.refl _ _) hq.sh rfl rfl,g4⟩
 obtain ⟨e1,e2,e3,_⟩:=WS.l7 { x with coll:={ x.coll with wish:=true } } none
 exact hcw.tell ⟨e1,e2,e3⟩
end
end
section
def uo (stop:Sh→MS→Bool):Nat→Sh→MS→Sh × MS
 | 0,s,m=>(s,m)
 | f+1,s,m=>if stop s m then (s,m) else uo stop f (aQ s m).1 (aQ s m).2.1
def HS.fE:HS→List Nat→HS
 | H,[]=>H
 | H,a::l=>(H.dU a).fE l
def HS.cu (H:HS) (k:Nat):Nat × Nat × HS :=
 if (H.dL k).2.1=0 then ((H.dL k).1,0,(H.dL k).2.2)
 else if (H.bJ k).2.1=0 then ((H.bJ k).1.headD 0,0,((H.bJ k).2.2).fE (H.bJ k).1.tail.reverse)
 else (0,10,H)
def HS.iW (H:HS) (a:Nat):Nat→HS
 | 0=>H
 | i+1=>(H.iW a i).dY a (i:Int) 0
def HS.jX (H:HS) (f c:Nat):Nat × HS :=
 if (H.cu (ofK f)).2.1=0 then ((H.cu (ofK f)).1,(((H.cu (ofK f)).2.2.fJ (H.cu (ofK f)).1 f).iW (H.cu (ofK f)).1 f).iH (H.cu (ofK f)).1 c)
 else (0,(H.cu (ofK f)).2.2)
def lgC (ww st:Nat):aB:=⟨1,ww,1,2,1,4,st⟩
def VA (ww st:Nat):HS:=((HS.new (lgC ww st) 1 ww 1).jX 1 0).2
def VB (ww st:Nat):HS:=((VA ww st).jX 1 0).2
def lgS (ww st:Nat):Sh:={ Sh.new (lgC ww st) 1 ww 1 1 with H:=(VB ww st).kN 0 1 }
def lgM (ww st:Nat):MS:=MS.new (lgS ww st).H.c 0 [⟨4,1,0,0⟩,⟨4,0,0,0⟩,⟨5,0,1,0⟩]
def lgA (ww st:Nat):Sh × MS:=uo (fun _ m=>decide (1≤m.res.length)) 19 (lgS ww st) (lgM ww st)
def lgB (ww st:Nat):Sh × MS:=({ (lgA ww st).1 with H:=(lgA ww st).1.H.kN 0 3 },(lgA ww st).2)
def lgK (i:Nat):Nat:=if i=0 then 1 else if i=1 then 5 else 7
def lgQ (ww st:Nat):Nat→Sh × MS
 | 0=>lgB ww st
 | i+1=>uo (fun s _=>s.B.all) 199 { (lgQ ww st i).1 with B:=(lgQ ww st i).1.B.kX (lgK i:Int) } (lgQ ww st i).2
def lgE (ww st i:Nat):Sh × MS:=uo (fun _ m=>fU m) 199 (lgQ ww st i).1 (lgQ ww st i).2
def Wn (ww st i:Nat):Bool :=
 let e:=lgE ww st i
 let l:=e.2.buf++e.1.box 0
 if i=1 then l.contains 1&&l.contains 3 else if i=2 then l.contains 3 else e.2.buf.isEmpty&&fU e.2
def VW (ww st:Nat):Bool :=
 decide (1≤(lgA ww st).2.res.length)&&((List.range 3).all fun i=>(lgQ ww st (i+1)).1.B.all)&&((List.range 4).all fun i=>fU (lgE ww st i).2)&&((List.range 4).all fun i=>decide ((lgQ ww st i).1.B.count=i)) &&
  ((List.range 4).all fun i=>decide ((lgE ww st i).1.boxes.length=1))&&((List.range 4).all fun i=>decide (((lgE ww st i).1.box 0).length≤10)&&decide ((lgE ww st i).2.buf.length≤10))
end
section
attribute [local go_sem] Oper.semAt_some
open Go.RowKit
theorem NU (xs:List Nat) (pB X off cap:Nat) (hn:xs.length≤4096) (m:Nat) (w:World) (cs:List Value) (hbp:Blk w pB [.slice (some ⟨X,off,none⟩) xs.length cap] 32) (hbx:Blk w X cs 3) (hcs:∀ q,q<xs.length→cs[off+q]?=some (.int .i64 ((xs.getD q 0:Nat):Int))) :
 xH Fence.wide m Tryz.prog 170 #[.pointer (some ⟨pB,0,none⟩)] (lD xs) sW (mG pB X) w:=by
 intro l J Jx W hW hJ hJx hY h0
 have hbp1:=hW.blk hbp (fun f=>f)
 have hbx1:=hW.blk hbx (fun f=>f)
 have hc0:=hbp1.cell 0 (v := .slice (some ⟨X,off,none⟩) xs.length cap) rfl
 have HLEN:=Lib.hid (mV xs)
 have HAT:Hid (∀ j q,j+q+1=xs.length→(lD xs)[j]?=some (q,xs.getD q 0)):=fun j q e=>by
  rw [tV (by omega),show xs.length - 1 - j=q by omega]
 have HV:Hid (∀ q wr,q<xs.length→Blk wr X cs 3→wr.cell? ⟨X,off+q,none⟩=some (.int .i64 ((xs.getD q 0:Nat):Int))):=fun q wr hq hb=>hb.cell (off+q) (hcs q hq)
 have hnI:(xs.length:Int)≤4096:=by omega
 have hw0:IntKind.i64.wrap ((xs.length:Int) - 1)=(xs.length:Int) - 1:=IntWalk.i64_in _ (by omega)
 generalize lD xs=L at *
 obtain ⟨at_,hat⟩:∃ f:Nat→Nat,f=fun q=>xs.getD q 0:=⟨_,rfl⟩
 have PY:Hid (∀ j q,j+q+1=xs.length→L[j]?=some (q,at_ q)):=fun j q e=>by rw [hat];exact HAT.out j q e
 have HV2:Hid (∀ q wr,q<xs.length→Blk wr X cs 3→wr.cell? ⟨X,off+q,none⟩=some (.int .i64 ((at_ q:Nat):Int))):=fun q wr h1 h2=>by rw [hat];exact HV.out q wr h1 h2
 clear HAT HV hat hbx hbp hcs
 generalize xs.length=n at *
 refine callsIn_of_wp Tryz.func170 rfl trivial ?_ rfl
 simp only [Tryz.ntmps170,List.size_toArray,List.length_cons,List.length_nil,Nat.reduceAdd,Nat.reduceSub,Array.replicate_succ,Array.replicate_zero,List.push_toArray,List.append_toArray,List.nil_append,List.cons_append]
 gi_wp2_with fail
 gi_loopw [3] (fun v wr=>∃ (j:Nat) (i:Int),j≤n∧i=(n:Int) - 1 - j∧v = .int .i64 i∧J j wr∧Holds (mG pB X) W wr) (fun v _=>(intOf v+1).toNat)
 case atStart=>exact ⟨0,_,by omega,by omega,rfl,h0,Holds.refl _ _⟩
 case round =>
  obtain ⟨j,i,hj,hi,rfl,hJj,hH⟩:=hrel
  have b1:=hH.blk (.inl rfl) hbp1
  have b2:=hH.blk (.inr rfl) hbx1
  have c1:=b1.cell 0 (v := .slice (some ⟨X,off,none⟩) n cap) rfl
  by_cases hlt:j<n
  ·obtain ⟨q,rfl⟩:∃ q:Nat,i=(q:Int):=⟨i.toNat,by omega⟩
   have hq:j+q+1=n:=by omega
   have hqn:q<n:=by omega
   have hq0:(0:Int)≤(q:Int):=by omega
   have hqI:(q:Int)<(n:Int):=by omega
   have c2:=HV2.out q wr hqn b2
   have hL:=PY.out j q hq
   have hwq:IntKind.i64.wrap ((q:Int) - 1)=(q:Int) - 1:=IntWalk.i64_in _ (by omega)
   generalize at_ q=x at *
   have HY:=Lib.hid hY
   have HJ:=Lib.hid hJj
   have HQ:=Lib.hid hq
   clear hY hJj hi hq
   obtain ⟨fn,tmps,assign,body,hy,hR⟩:=HY.out j (q,x) #[.int .i64 (q:Int),.int .i64 (x:Int)] wr hL HJ.out rfl
   gi_wp2_with fail
   refine ⟨fun h=>(by cases h),hR.mono ?_⟩
   rintro e W' (⟨rfl,hJ',hk⟩|⟨rfl,xI⟩)
   ·gi_wp2_with fail
    go_roundw
    case rel=>exact ⟨j+1,(q:Int) - 1,by omega,by have:=HQ.out;omega,by go_num,hJ',hH.trans hk⟩
    case measure=>simp [intOf]<;>omega
   ·gi_wp2_with fail
    refine bodyPost_ret (results_none rfl _ _ _) rfl ?_
    exact ⟨⟨_,rfl⟩,.inr ⟨j+1,by rw [HLEN.out];omega,xI⟩⟩
  ·clear hY
   obtain rfl:i = -1:=by omega
   have HJE:Hid (j=n):=by unfold Hid;omega
   clear hi
   gi_wp2_with fail
   go_end0
   exact ⟨⟨_,rfl⟩,.inl (by rw [HLEN.out,← HJE.out];exact hJj)⟩
section
variable {w w':World} {D:Nat→Nat} {H:HS}
theorem Cb:∀ (l:List Nat) (H:HS) (a:Nat),H.fE (l++[a])=(H.fE l).dU a
 | [],_,_=>rfl
 | b::l,H,a=>Cb l (H.dU b) a
structure SkI (w:World) (D:Nat→Nat) (N b g:Nat) (cs:List Value) (H:HS) (xs:List Nat) (j:Nat) (W:World):Prop where
 keep:Keep (HF D) w W
 heap:au W D (H.fE ((xs.reverse).take j))
 hb:Blk W b [.pointer (some ⟨D 0,0,none⟩)] 47
 hg:Blk W g cs 3
 big:N≤W.heap.size
theorem SkI.own {N b g:Nat} {cs:List Value} {xs:List Nat} {B:Nat} (hB:w.heap.size≤B) (hD:∀ i,i<13→D i<B) (hg:3<B∧4<B∧2<B):OwnFrom B (SkI w D N b g cs H xs):=by
 rintro j W W' row ⟨h1,h2,h3,h4,hN⟩ hgr hr
 have k:Keep (fun i=>row=some i) W W':=⟨hgr.os,hgr.tape,hgr.output,hgr.size,fun x hx n=>hgr.block x hx (fun e=>n e.symm)⟩
 have hne:∀ i,i<B→¬ row=some i:=fun i hi e=>by have:=(hr i e).1;omega
 exact ⟨ng (β:=Nat) hB j W W' row h1 hgr hr,h2.keep k (fun i hi=>hne _ (hD i hi)) (hne _ hg.1) (hne _ hg.2.1) (hne _ hg.2.2),iy (β:=Nat) (cs:=fun _=>_) j W W' row h3 hgr hr,iy (β:=Nat) (cs:=fun _=>_) j W W' row h4 hgr hr,Nat.le_trans hN hgr.size⟩
theorem Kr (h:au w D H) (k:Nat) (hk:k<4) (ht:(H.dL k).2.1=0):Calls Tryz.prog 114 #[.pointer (some ⟨D 0,0,none⟩),.int .i64 (k:Int)] w fun e w'=>e = .returned (.tuple #[.int .i64 ((H.cu k).1:Int),.int .i64 ((H.cu k).2.1:Int)])∧au w' D (H.cu k).2.2∧Keep (HF D) w w':=by
 have e:H.cu k=((H.dL k).1,0,(H.dL k).2.2):=by unfold HS.cu;rw [if_pos ht]
 rw [e]
 have HT:Hid (∀ x,Calls Tryz.prog 159 #[.pointer (some ⟨D 0,0,none⟩),.int .i64 (k:Int)] (w.alloc x) fun e w'=>e = .returned (.tuple #[.int .i64 ((H.dL k).1:Int),.int .i64 0])∧au w' D (H.dL k).2.2∧Keep (HF D) w w'):=fun x=>by
  have k1:Keep none_ w (w.alloc x):=(Keep.refl _ _).alloc x
  refine (vk (h.still k1) k hk).mono ?_
  rintro e w' ⟨rfl,h1,k2⟩
  rw [ht]
  exact ⟨rfl,h1,(k1.mono (fun _ _ f=>f.elim)).trans k2⟩
 generalize (H.dL k).1=a at *
 generalize (H.dL k).2.2=H2 at *
 clear h ht e
 go_enter Tryz.func114,Tryz.ntmps114
 go_wp2_with fail
 refine (HT.out _).mono ?_
 rintro e w1 ⟨rfl,h1,k1⟩
 have HE:=Lib.hid (And.intro h1 k1)
 clear h1 k1 HT
 go_wp2_with fail
 go_ret2
 exact ⟨rfl,HE.out.1,HE.out.2⟩
theorem Fv (h:au w D H) (k:Nat) (hk:k<4) (ht:(H.dL k).2.1≠0) (ha:(H.bJ k).2.1=0) (h2:2≤(H.bJ k).1.length) (h4:(H.bJ k).1.length≤256):Calls Tryz.prog 114 #[.pointer (some ⟨D 0,0,none⟩),.int .i64 (k:Int)] w fun e w'=>e = .returned (.tuple #[.int .i64 ((H.cu k).1:Int),.int .i64 ((H.cu k).2.1:Int)])∧au w' D (H.cu k).2.2∧Keep (HF D) w w':=by
 have e:H.cu k=((H.bJ k).1.headD 0,0,((H.bJ k).2.2).fE (H.bJ k).1.tail.reverse):=by unfold HS.cu;rw [if_neg ht,if_pos ha]
 rw [e]
 have ht12:(H.dL k).2.1=12∧(H.dL k).2.2=H:=by
  unfold HS.dL at ht ⊢
  split
  ·exact ⟨rfl,rfl⟩
  ·rename_i e;rw [e] at ht;exact absurd rfl ht
 obtain ⟨W0,hW0⟩:∃ W0,W0=w.alloc (.cells #[.pointer (some ⟨D 0,0,none⟩)] 47):=⟨_,rfl⟩
 have k0:Keep none_ w W0:=by rw [hW0];exact (Keep.refl _ _).alloc _
 have hb0:Blk W0 w.heap.size [.pointer (some ⟨D 0,0,none⟩)] 47:=by rw [hW0];exact Blk.new w _ _
 have hDw:∀ i,i<13→D i<w.heap.size:=h.ltD
 have Ue:=h.DK
 have HT:=Lib.hid (vk (h.still k0) k hk)
 rw [ht12.1,ht12.2] at HT
 have HA:Hid (∀ W,au W D H→Calls Tryz.prog 160 #[.pointer (some ⟨D 0,0,none⟩),.int .i64 (k:Int)] W fun e w'=>∃ v,e = .returned (.tuple #[v,.int .i64 0])∧w'.ownsRow W.heap.size 3 1 v (H.bJ k).1.length (aC (H.bJ k).1)∧au w' D (H.bJ k).2.2∧Keep (HF D) W w'):=fun W hW=>by
  have h9:=xk hW k hk
  rw [ha] at h9
  exact h9
 generalize (H.bJ k).2.2=H2 at *
 obtain ⟨x0,xs,hall⟩:∃ x0 xs,(H.bJ k).1=x0::xs:=by
  cases hh:(H.bJ k).1 with
  | nil=>rw [hh] at h2;simp at h2
  | cons x l=>exact ⟨x,l,rfl⟩
 rw [hall] at HA h2 h4 ⊢
 simp only [List.length_cons,List.headD_cons,List.tail_cons] at HA h2 h4 ⊢
 have hx1:1≤xs.length∧xs.length≤255:=by omega
 have HXL:=Lib.hid hx1
 have HW0:=Lib.hid hW0
 have HK0:=Lib.hid k0
 have HB0:=Lib.hid hb0
 have HDW:=Lib.hid hDw
 have HGL:=Lib.hid Ue
 clear h ht ha e ht12 hall h2 h4 hW0 k0 hb0 hDw Ue hx1
 refine (callsIn_wide (n:=9)).1 ?_
 refine callsIn_of_wp_marks Tryz.func114 rfl trivial ?_ rfl
 refine wpIn_wide.2 ?_
 simp only [Tryz.ntmps114,List.size_toArray,List.length_cons,List.length_nil,Nat.reduceAdd,Nat.reduceSub,Array.replicate_succ,Array.replicate_zero,List.push_toArray,List.append_toArray,List.nil_append,List.cons_append]
 go_wp2_with fail
 rw [← HW0.out]
 refine HT.out.mono ?_
 rintro e w1 ⟨rfl,h1,k1⟩
 have kb:∀ i,i<13→w.heap.size≠D i:=fun i hi=>by have:=HDW.out i hi;omega
 have hb1:Blk w1 w.heap.size [.pointer (some ⟨D 0,0,none⟩)] 47:=k1.blk HB0.out (fun ⟨i,hi,e⟩=>kb i hi e)
 have c1:w1.cell? ⟨w.heap.size,0,none⟩=some (.pointer (some ⟨D 0,0,none⟩)):=hb1.cell 0 rfl
 have HA1:=Lib.hid (HA.out w1 h1)
 have HK1:Hid (Keep (HF D) w w1):=(HK0.out.mono (fun _ _ f=>f.elim)).trans k1
 have HB1:=Lib.hid hb1
 have HS1:Hid (w.heap.size<w1.heap.size):=hb1.lt
 clear h1 k1 hb1 HT HA HB0 kb
 go_wp2_with fail
 refine HA1.out.mono ?_
 rintro e w2 ⟨v,rfl,hown,h2,k2⟩
 obtain ⟨g,cap,cur,rfl,hg0,hg,hnc,hcc⟩:∃ g cap cur,v = .slice (some ⟨g,0,none⟩) (xs.length+1) cap∧w1.heap.size≤g∧Blk w2 g cur 3∧xs.length+1≤cap∧∀ j u,(aC (x0::xs))[j]?=some u→cur[j]?=some u:=by
  rcases hown.2 with ⟨_,h0⟩|⟨g,cap,cur,e1,hg0,hg,hn,_,hs,hc⟩
  ·omega
  ·refine ⟨g,cap,cur.toList,e1,hg0,by unfold Blk;simpa using hg,hn,fun j u hj=>?_⟩
   have h9:=hj
   rw [← hc] at h9
   have hlt:=(List.getElem?_eq_some_iff.1 h9).1
   rw [List.getElem?_take_of_lt (by simp at hlt;omega)] at h9
   exact h9
 have hcut:∀ w,(Instr.slice 32 (.slice (some ⟨g,0,none⟩) (xs.length+1) cap) (some (.int .i64 1)) none none).run Tryz.prog w = .ok (.slice (some ⟨g,1,none⟩) xs.length (cap - 1)) w:=fun w=>by
  have h9:=wH (P:=Tryz.prog) (T:=32) (e:=3) (by kernel_rfl) (by kernel_rfl) (some ⟨g,0,none⟩) (xs.length+1) cap 1 (by omega) w
  have e1:kU (some ⟨g,0,none⟩) cap 1=some ⟨g,1,none⟩:=by
   unfold kU
   rw [if_neg (by have:=HXL.out;omega)]
   simp [Addr.add]
  rw [e1,Nat.add_sub_cancel] at h9
  exact h9
 have hb2:Blk w2 w.heap.size [.pointer (some ⟨D 0,0,none⟩)] 47:=k2.blk HB1.out (fun ⟨i,hi,e⟩=>by have:=HDW.out i hi;omega)
 have hs2:=k2.size
 have hs1:=HS1.out
 obtain ⟨W3,hW3⟩:∃ W3,W3=w2.alloc (.cells #[.slice (some ⟨g,1,none⟩) xs.length (cap - 1)] 32):=⟨_,rfl⟩
 have k3:Keep none_ w2 W3:=by rw [hW3];exact (Keep.refl _ _).alloc _
 have hb3:Blk W3 w2.heap.size [.slice (some ⟨g,1,none⟩) xs.length (cap - 1)] 32:=by rw [hW3];exact Blk.new w2 _ _
 have e3:W3.heap.size=w2.heap.size+1:=by rw [hW3];simp
 have PS:=hg.lt
 have zZ:Hid (xH Fence.wide 8 Tryz.prog 170 #[.pointer (some ⟨w2.heap.size,0,none⟩)] (lD xs) sW (mG w2.heap.size g) W3):=NU xs w2.heap.size g 1 (cap - 1) (by have:=HXL.out;omega) 8 W3 cur hb3 (k3.blk hg (fun f=>f)) (fun q hq=>by
  refine hcc (1+q) _ ?_
  rw [Nat.add_comm]
  unfold aC
  rw [List.map_cons,List.getElem?_cons_succ,List.getElem?_map,List.getElem?_eq_getElem hq,List.getD_eq_getElem?_getD,List.getElem?_eq_getElem hq];rfl)
 have HI0:Hid (SkI w D W3.heap.size w.heap.size g cur H2 xs 0 W3):=⟨(HK1.out.trans k2).trans (k3.mono (fun _ _ f=>f.elim)),by rw [List.take_zero];exact h2.still k3,k3.blk hb2 (fun f=>f),k3.blk hg (fun f=>f),Nat.le_refl _⟩
 have HGX:Hid (∀ i,mG w2.heap.size g i→i<W3.heap.size∧∀ j,j<13→i≠D j):=by
  rintro i (rfl|rfl)
  ·exact ⟨by omega,fun j hj e=>by have:=HDW.out j hj;omega⟩
  ·exact ⟨by omega,fun j hj e=>by have:=HDW.out j hj;omega⟩
 have HOWN:Hid (OwnFrom W3.heap.size (SkI w D W3.heap.size w.heap.size g cur H2 xs)):=SkI.own (by omega) (fun i hi=>by have:=HDW.out i hi;omega) (by have:=HGL.out;omega)
 have HC0:Hid (cur[0]?=some (.int .i64 (x0:Int))):=hcc 0 _ rfl
 have HGD:Hid (w.heap.size<g∧w.heap.size<W3.heap.size):=⟨by omega,by omega⟩
 have HW3:=Lib.hid hW3
 have c2:w2.cell? ⟨w.heap.size,0,none⟩=some (.pointer (some ⟨D 0,0,none⟩)):=hb2.cell 0 rfl
 clear hown h2 k2 hg0 hg hcc hb2 hs2 hs1 k3 hb3 e3 PS hW3 HA1 HK1 HB1 HS1 c1
 go_wp2_with fail
 refine (BR _ _ _ _).mono ?_
 rintro e w4 ⟨rfl,hw4⟩
 rw [← HW3.out] at hw4
 subst hw4
 clear c2 hcut
 go_wp2_with fail
 refine wpIn_wide (n:=9) |>.1 ?_
 refine zW rfl (by decide) (gf:=170) (lb:=#[.pointer (some ⟨w2.heap.size,0,none⟩)]) rfl trivial (fun args w=>by simp [callFunc,Tryz.func170,go_sem];rfl) (all:=lD xs) (Enc:=sW) (G:=mG w2.heap.size g)
  zZ.out ?hG ?hps (fun j W=>SkI w D w4.heap.size w.heap.size g cur H2 xs j W) (fun _ _ _=>False) ?hI ?hIx ?h0 ?round ?done ?stop
 case hI=>exact HOWN.out
 case hIx=>exact fun c s W W' row h hg hr=>h
 case h0=>exact HI0.out
 case hG=>exact fun i hi=>(HGX.out i hi).1
 case hps =>
  rintro W x args h
  rw [h];rfl
 case stop=>exact fun D c k W hD hk h=>h.elim
 case round =>
  rintro l j x args W hx henc hI
  have hj:j<xs.length:=by
   have h:=(List.getElem?_eq_some_iff.1 hx).1
   rwa [mV] at h
  rw [tV hj] at hx
  injection hx with hx
  subst hx
  obtain ⟨x,hx⟩:∃ x,x=xs.getD (xs.length - 1 - j) 0:=⟨_,rfl⟩
  obtain ⟨y,hy⟩:∃ y:Nat,y=xs.length - 1 - j:=⟨_,rfl⟩
  obtain rfl:args=#[.int .i64 (y:Int),.int .i64 (x:Int)]:=by rw [hx,hy];exact henc
  have hsn:(xs.reverse).take (j+1)=(xs.reverse).take j++[x]:=by
   rw [List.take_add_one,List.getElem?_reverse hj,hx,List.getD_eq_getElem?_getD]
   rw [List.getElem?_eq_getElem (by omega)];rfl
  have HSN:=Lib.hid hsn
  clear hx hy henc hsn
  have HI:=Lib.hid hI
  clear hI
  gi_wp2_with fail
  refine ⟨fun W=>SkI w D w4.heap.size w.heap.size g cur H2 xs j W,KeepsFrom.refl _ _,Holds.refl _ _,HI.out,(fun _ W' W'' row h hg hr=>HOWN.out j W' W'' row h hg hr),?_⟩
  clear HI
  rintro W2 hI
  have c2:W2.cell? ⟨w.heap.size,0,none⟩=some (.pointer (some ⟨D 0,0,none⟩)):=hI.hb.cell 0 rfl
  have HP:=Lib.hid (Pg hI.heap x)
  have HI:=Lib.hid hI
  clear hI
  gi_wp2_with fail
  refine ⟨trivial,CallsIn.mono (CallsIn.inRound l (callsIn_wide.2 HP.out)) ?_⟩
  rintro e w5 ⟨⟨er,rfl⟩,h5,k5⟩
  have dO:Hid (KeepsFrom w4.heap.size W2 w5∧Holds (mG w2.heap.size g) W2 w5∧SkI w D w4.heap.size w.heap.size g cur H2 xs (j+1) w5):=by
   have hbig:=HI.out.big
   refine ⟨⟨k5.size,fun i oo hB hq ho=>(k5.block i (Array.getElem?_eq_some_iff.1 hq).1 (fun ⟨q,hq2,e⟩=>by have:=HDW.out q hq2;have:=HGD.out;omega)).trans hq⟩,?_,HI.out.keep.trans k5,?_,k5.blk HI.out.hb (fun ⟨i,hi,e⟩=>by have:=HDW.out i hi;omega),k5.blk HI.out.hg (fun ⟨i,hi,e⟩=>by have:=HDW.out i hi;have:=HGD.out;omega),Nat.le_trans hbig k5.size⟩
   ·exact Holds.mZ k5 (fun i hi=>⟨Nat.lt_of_lt_of_le (HGX.out i hi).1 hbig,fun ⟨q,hq,e⟩=>(HGX.out i hi).2 q hq e⟩)
   ·rw [HSN.out,Cb];exact h5
  clear h5 k5 HP c2
  gi_wp2_with fail
  exact ⟨dO.out.1,dO.out.2.1,dO.out.2.2⟩
 case done =>
  rintro D5 W hD hI hKd
  rw [mV] at hI
  have c0:W.cell? ⟨g,0,none⟩=some (.int .i64 (x0:Int)):=hI.hg.cell 0 HC0.out
  have dO:Hid (au (W.putObj D5 (.deferred none)) D (H2.fE xs.reverse)∧Keep (HF D) w (W.putObj D5 (.deferred none))):=by
   have hk9:Keep (fun i=>i=D5) W (W.putObj D5 (.deferred none)):=⟨rfl,rfl,rfl,by simp,fun q _ n=>World.putObj_heap_other n⟩
   have h9:=hI.heap
   rw [List.take_of_length_le (by simp)] at h9
   refine ⟨h9.keep hk9 (fun i hi e=>by have:=HDW.out i hi;have:=HGD.out;omega) (fun e=>by have:=HGL.out;have:=HGD.out;omega) (fun e=>by have:=HGL.out;have:=HGD.out;omega) (fun e=>by have:=HGL.out;have:=HGD.out;omega),hI.keep.takeDeferred (D:=D5) (by have:=HGD.out;omega) (.deferred none)⟩
  clear hI
  go_wp2_with fail
  refine ⟨by simp,.inl ⟨_,_,rfl,run_takeDeferred hKd,?_⟩⟩
  exact ⟨.tuple #[.int .i64 (x0:Int),.int .i64 0],by simp [results,Tryz.f114,go_sem],rfl,dO.out.1,dO.out.2⟩
end
section
variable {w w':World} {D:Nat→Nat} {H:HS}
theorem Cc {f:Nat} (hf:f≤3):ofK f<2:=by
 unfold ofK
 split
 ·decide
 ·split
  ·decide
  ·split
   ·decide
   ·omega
theorem Kt (h:au w D H) (k:Nat) (hk:k<4) (ht:(H.dL k).2.1≠0) (ha:(H.bJ k).2.1≠0):Calls Tryz.prog 114 #[.pointer (some ⟨D 0,0,none⟩),.int .i64 (k:Int)] w fun e w'=>e = .returned (.tuple #[.int .i64 ((H.cu k).1:Int),.int .i64 ((H.cu k).2.1:Int)])∧au w' D (H.cu k).2.2∧Keep (HF D) w w':=by
 have e:H.cu k=(0,10,H):=by unfold HS.cu;rw [if_neg ht,if_neg ha]
 rw [e]
 have ht12:(H.dL k).2.1=12∧(H.dL k).2.2=H:=by
  unfold HS.dL at ht ⊢
  split
  ·exact ⟨rfl,rfl⟩
  ·rename_i e;rw [e] at ht;exact absurd rfl ht
 have ha10:(H.bJ k).2.1=10∧(H.bJ k).2.2=H∧(H.bJ k).1=[]:=by
  unfold HS.bJ at ha ⊢
  split
  ·exact ⟨rfl,rfl,rfl⟩
  ·rename_i e;rw [e] at ha;exact absurd rfl ha
 obtain ⟨W0,hW0⟩:∃ W0,W0=w.alloc (.cells #[.pointer (some ⟨D 0,0,none⟩)] 47):=⟨_,rfl⟩
 have k0:Keep none_ w W0:=by rw [hW0];exact (Keep.refl _ _).alloc _
 have hb0:Blk W0 w.heap.size [.pointer (some ⟨D 0,0,none⟩)] 47:=by rw [hW0];exact Blk.new w _ _
 have hDw:∀ i,i<13→D i<w.heap.size:=h.ltD
 have HT:Hid (Calls Tryz.prog 159 #[.pointer (some ⟨D 0,0,none⟩),.int .i64 (k:Int)] W0 fun e w'=>(∃ a:Int,e = .returned (.tuple #[.int .i64 a,.int .i64 12]))∧au w' D H∧Keep (HF D) w w'∧w'.cell? ⟨w.heap.size,0,none⟩=some (.pointer (some ⟨D 0,0,none⟩))):=by
  refine (vk (h.still k0) k hk).mono ?_
  rintro e w' ⟨rfl,h1,k1⟩
  rw [ht12.1] at *
  rw [ht12.2] at h1
  refine ⟨⟨_,rfl⟩,h1,(k0.mono (fun _ _ f=>f.elim)).trans k1,(k1.blk hb0 (fun hh=>?_)).cell 0 rfl⟩
  obtain ⟨i,hi,e⟩:=hh
  have:=hDw i hi
  omega
 have HA:Hid (∀ W,au W D H→Keep (HF D) w W→Calls Tryz.prog 160 #[.pointer (some ⟨D 0,0,none⟩),.int .i64 (k:Int)] W fun e w'=>(∃ a n c,e = .returned (.tuple #[.slice a n c,.int .i64 10]))∧au w' D H∧Keep (HF D) w w'):=fun W hW hk'=>by
  refine (xk hW k hk).mono ?_
  rintro e w' ⟨v,rfl,ho,h1,k1⟩
  rw [ha10.1]
  rw [ha10.2.1] at h1
  obtain ⟨a,c,rfl,_⟩:=jk (dP ho (Nat.zero_le _))
  exact ⟨⟨_,_,_,rfl⟩,h1,hk'.trans k1⟩
 have HW0:=Lib.hid hW0
 clear h ht ha e hDw ht12 ha10 hb0 k0 hW0
 go_enter Tryz.func114,Tryz.ntmps114
 go_wp2_with fail
 rw [← HW0.out]
 refine HT.out.mono ?_
 rintro e w1 ⟨⟨a,rfl⟩,h1,k1,z0⟩
 have HA1:=Lib.hid (HA.out w1 h1 k1)
 clear h1 k1 HT HA
 go_wp2_with fail
 refine HA1.out.mono ?_
 rintro e w2 ⟨⟨a2,n2,c2,rfl⟩,h2,k2⟩
 have HE:=Lib.hid (And.intro h2 k2)
 clear h2 k2 HA1 z0
 go_wp2_with fail
 go_ret2
 exact ⟨rfl,HE.out.1,HE.out.2⟩
theorem Fz (h:au w D H) (k:Nat) (hk:k<2) (ha:(H.bJ k).2.1=0):2≤(H.bJ k).1.length∧(H.bJ k).1.length≤256:=by
 have hn:=jm h.table.ok h.table.len h.cw
 unfold HS.bJ at ha ⊢
 split at ha
 ·cases ha
 ·rename_i B hB
  have hlt:B<H.K.length:=by
   obtain ⟨hh,_⟩:=List.findIdx?_eq_some_iff_getElem.1 hB
   exact hh
  simp only [hB]
  unfold HS.slots
  have e1:(H.assign B k).K.getD B 0=k+1:=by
   show (H.K.set B (k+1)).getD B 0=_
   rw [List.getD_eq_getElem?_getD,List.getElem?_set_self hlt]
   rfl
  rw [e1,if_neg (by omega),pI]
  show 2≤H.ww/2^(k+1)∧H.ww/2^(k+1)≤256
  have h1:H.ww/2^(k+1)≤H.ww:=Nat.div_le_self _ _
  have h2:4≤H.ww/2^(k+1):=by
   rw [Nat.le_div_iff_mul_le (Nat.pos_of_ne_zero (by simp))]
   rcases (by omega:k=0∨k=1) with rfl|rfl<;>omega
  omega
theorem Ce (h:au w D H) (k:Nat) (hk:k<2):Calls Tryz.prog 114 #[.pointer (some ⟨D 0,0,none⟩),.int .i64 (k:Int)] w fun e w'=>e = .returned (.tuple #[.int .i64 ((H.cu k).1:Int),.int .i64 ((H.cu k).2.1:Int)])∧au w' D (H.cu k).2.2∧Keep (HF D) w w':=by
 by_cases ht:(H.dL k).2.1=0
 ·exact Kr h k (by omega) ht
 ·by_cases ha:(H.bJ k).2.1=0
  ·obtain ⟨h1,h2⟩:=Fz h k hk ha
   exact Fv h k (by omega) ht ha h1 h2
  ·exact Kt h k (by omega) ht ha
theorem NV (f c:Nat) (hf:f≤15) (hc:c<2) (w:World) (he:(H.cu (ofK f)).2.1=0) (hS:Sizes w)
 (hSl:Calls Tryz.prog 114 #[.pointer (some ⟨D 0,0,none⟩),.int .i64 (ofK f:Int)] w fun e w'=>e = .returned (.tuple #[.int .i64 ((H.cu (ofK f)).1:Int),.int .i64 ((H.cu (ofK f)).2.1:Int)])∧au w' D (H.cu (ofK f)).2.2∧Keep (HF D) w w'):Calls Tryz.prog 71 #[.pointer (some ⟨D 0,0,none⟩),.int .i64 (f:Int),.int .i64 (c:Int)] w fun e w'=>(∃ va vb:Int,e = .returned (.tuple #[.int .i64 va,.int .i64 vb]))∧au w' D (H.jX f c).2∧Keep (HF D) w w':=by
 have e:H.jX f c=((H.cu (ofK f)).1,(((H.cu (ofK f)).2.2.fJ (H.cu (ofK f)).1 f).iW (H.cu (ofK f)).1 f).iH (H.cu (ofK f)).1 c):=by unfold HS.jX;rw [if_pos he]
 rw [e]
 rw [he] at hSl
 have HSL:=Lib.hid hSl
 have HOF:Hid (Calls Tryz.prog 112 #[.int .i64 (f:Int)] w fun e w'=>e = .returned (.tuple #[.int .i64 (ofK f:Int),.bool true])∧w=w'):=by
  exact Ip (f:Int) (by omega) (by omega) w hS
 have HCO:Hid (∀ W,Calls Tryz.prog 113 #[.int .i64 (c:Int)] W fun e w'=>e = .returned (.bool true)∧W=w'):=fun W=>by
  rcases (by omega:c=0∨c=1) with rfl|rfl
  all_goals
   go_enter Tryz.func113,Tryz.ntmps113
   go_wp2_with fail
   go_ret
   exact ⟨rfl,rfl⟩
 generalize (H.cu (ofK f)).1=a at *
 generalize (H.cu (ofK f)).2.2=H2 at *
 have HBG:Hid (∀ W,au W D H2→Calls Tryz.prog 115 #[.pointer (some ⟨D 0,0,none⟩),.int .i64 (a:Int),.int .i64 (f:Int)] W fun e w'=>(∃ er:Int,e = .returned (.int .i64 er))∧au w' D (H2.fJ a f)∧Keep (HF D) W w'):=fun W hW=>Jt hW a f hf
 have HST:Hid (∀ W i,au W D ((H2.fJ a f).iW a i)→Calls Tryz.prog 72 #[.pointer (some ⟨D 0,0,none⟩),.int .i64 (a:Int),.int .i64 (i:Int),.int .i64 0] W fun e w'=>(∃ er:Int,e = .returned (.int .i64 er))∧au w' D ((H2.fJ a f).iW a (i+1))∧Keep (HF D) W w'):=fun W i hW=>by
  refine (yZ hW a (i:Int) 0).mono ?_
  rintro e w' ⟨rfl,h1,k1⟩
  exact ⟨⟨_,rfl⟩,h1,k1⟩
 have HBE:Hid (∀ W,au W D ((H2.fJ a f).iW a f)→Calls Tryz.prog 116 #[.pointer (some ⟨D 0,0,none⟩),.int .i64 (a:Int),.int .i64 (c:Int)] W fun e w'=>(∃ er:Int,e = .returned (.int .i64 er))∧au w' D (((H2.fJ a f).iW a f).iH a c)∧Keep (HF D) W w'):=fun W hW=>by
  refine (MJ hW a c).mono ?_
  rintro e w' ⟨rfl,g1,g2⟩
  exact ⟨⟨_,rfl⟩,g1,g2⟩
 have hf0:(f:Int)≤15:=by omega
 have hw0:au w D H2→True:=fun _=>trivial
 show Calls Tryz.prog 71 #[.pointer (some ⟨D 0,0,none⟩),.int .i64 (f:Int),.int .i64 (c:Int)] w fun e w'=>(∃ va vb:Int,e = .returned (.tuple #[.int .i64 va,.int .i64 vb]))∧au w' D (((H2.fJ a f).iW a f).iH a c)∧Keep (HF D) w w'
 generalize H2.fJ a f=H3 at *
 clear hSl hS he e hw0
 go_enter Tryz.func71,Tryz.ntmps71
 go_wp2_with fail
 refine HOF.out.mono ?_
 rintro e w1 ⟨rfl,rfl⟩
 go_wp2_with fail
 refine (HCO.out _).mono ?_
 rintro e w1 ⟨rfl,rfl⟩
 go_wp2_with fail
 refine HSL.out.mono ?_
 rintro e w1 ⟨rfl,h1,k1⟩
 have HB1:=Lib.hid (HBG.out w1 h1)
 have HK1:=Lib.hid k1
 clear h1 k1 HSL HBG HOF HCO
 go_wp2_with fail
 refine HB1.out.mono ?_
 rintro e w2 ⟨⟨er,rfl⟩,h2,k2⟩
 have HI0:Hid (au w2 D (H3.iW a 0)∧Keep (HF D) w w2):=⟨h2,HK1.out.trans k2⟩
 clear h2 k2 HB1 HK1
 go_wp2_with fail
 go_loopw [39] (fun i wr=>∃ j:Nat,j≤f∧i = .int .i64 j∧au wr D (H3.iW a j)∧Keep (HF D) w wr) (fun i _=>f - (intOf i).toNat)
 case atStart=>exact ⟨0,Nat.zero_le _,rfl,HI0.out.1,HI0.out.2⟩
 case round =>
  obtain ⟨j,hj,rfl,hh,hk⟩:=hrel
  by_cases hlt:j<f
  ·have oV:(j:Int)<(f:Int):=by omega
   have HS1:=Lib.hid (HST.out wr j hh)
   have HK:=Lib.hid hk
   clear hh hk
   go_wp2_with fail
   refine HS1.out.mono ?_
   rintro e w3 ⟨⟨er,rfl⟩,h3,k3⟩
   have H3':Hid (au w3 D (H3.iW a (j+1))∧Keep (HF D) w w3):=⟨h3,HK.out.trans k3⟩
   clear h3 k3 HS1
   go_wp2_with fail
   go_roundw
   case rel=>exact ⟨j+1,by omega,by go_num,H3'.out.1,H3'.out.2⟩
   case measure=>simp [intOf]<;>omega
  ·obtain rfl:j=f:=by omega
   have hnlt:¬ (j:Int)<(j:Int):=by omega
   have HB:=Lib.hid (HBE.out wr hh)
   have HK:=Lib.hid hk
   clear hh hk hlt
   go_wp2_with fail
   refine HB.out.mono ?_
   rintro e w3 ⟨⟨er,rfl⟩,h3,k3⟩
   have H3':Hid (au w3 D ((H3.iW a j).iH a c)∧Keep (HF D) w w3):=⟨h3,HK.out.trans k3⟩
   clear h3 k3 HB
   go_wp2_with fail
   go_ret2
   exact ⟨⟨_,_,rfl⟩,H3'.out.1,H3'.out.2⟩
theorem Ku (h:au w D H) (f c:Nat) (hf:f≤3) (hc:c<2) (he:(H.cu (ofK f)).2.1≠0):Calls Tryz.prog 71 #[.pointer (some ⟨D 0,0,none⟩),.int .i64 (f:Int),.int .i64 (c:Int)] w fun e w'=>(∃ va vb:Int,e = .returned (.tuple #[.int .i64 va,.int .i64 vb]))∧au w' D (H.jX f c).2∧Keep (HF D) w w':=by
 have e:H.jX f c=(0,(H.cu (ofK f)).2.2):=by unfold HS.jX;rw [if_neg he]
 rw [e]
 have hk2:ofK f<2:=Cc hf
 have HSL:=Lib.hid (Ce h (ofK f) hk2)
 have HOF:Hid (Calls Tryz.prog 112 #[.int .i64 (f:Int)] w fun e w'=>e = .returned (.tuple #[.int .i64 (ofK f:Int),.bool true])∧w=w'):=by
  exact Ip (f:Int) (by omega) (by omega) w h.sizes
 have HCO:Hid (∀ W,Calls Tryz.prog 113 #[.int .i64 (c:Int)] W fun e w'=>e = .returned (.bool true)∧W=w'):=fun W=>by
  rcases (by omega:c=0∨c=1) with rfl|rfl
  all_goals
   go_enter Tryz.func113,Tryz.ntmps113
   go_wp2_with fail
   go_ret
   exact ⟨rfl,rfl⟩
 have he10:(H.cu (ofK f)).2.1=10:=by
  unfold HS.cu at he ⊢
  split at he
  ·exact absurd rfl he
  ·split at he
   ·exact absurd rfl he
   ·rename_i h1 h2
    rw [if_neg h1,if_neg h2]
 rw [he10] at HSL
 generalize (H.cu (ofK f)).1=a at *
 generalize (H.cu (ofK f)).2.2=H2 at *
 clear h he e he10
 go_enter Tryz.func71,Tryz.ntmps71
 go_wp2_with fail
 refine HOF.out.mono ?_
 rintro e w1 ⟨rfl,rfl⟩
 go_wp2_with fail
 refine (HCO.out _).mono ?_
 rintro e w1 ⟨rfl,rfl⟩
 go_wp2_with fail
 refine HSL.out.mono ?_
 rintro e w1 ⟨rfl,h1,k1⟩
 have HE:=Lib.hid (And.intro h1 k1)
 clear h1 k1 HSL HOF HCO
 go_wp2_with fail
 go_ret2
 exact ⟨⟨_,_,rfl⟩,HE.out.1,HE.out.2⟩
theorem NW (h:au w D H) (f c:Nat) (hf:f≤3) (hc:c<2):Calls Tryz.prog 71 #[.pointer (some ⟨D 0,0,none⟩),.int .i64 (f:Int),.int .i64 (c:Int)] w fun e w'=>(∃ va vb:Int,e = .returned (.tuple #[.int .i64 va,.int .i64 vb]))∧au w' D (H.jX f c).2∧Keep (HF D) w w':=by
 by_cases he:(H.cu (ofK f)).2.1=0
 ·have hk2:ofK f<2:=Cc hf
  exact NV f c (by omega) hc w he h.sizes (Ce h (ofK f) hk2)
 ·exact Ku h f c hf hc he
end
end
end Go.Proofs.YtanfphjoebobaaaGreatDoor
