/- Parts of the walk. No conditions. -/
import Derived.Test.YtanfphjoebobaaaGreatDoorZzew
import Derived.Shelf.Spec.TrailingZeros
import Derived.Lib.MinMax
namespace Go.Proofs.YtanfphjoebobaaaGreatDoor
open _root_.Go.Proofs.Tryz hiding prog
open _root_.Go.Proofs.Tryz renaming prog->ay
set_option maxRecDepth 100000
set_option maxHeartbeats 4000000
section
open Go.RowKit
section
variable {o o':Ow} {w w' W W':World} {G:Geo} {g:MG} {q:CG} {s s':Sh} {m:MS} {c:CS} {ev:Option Ev} {nv:Value} {I:List Nat}
theorem Keep.Nk (k0:Keep none_ w W) (k:Keep (In o I) W W') (h0:I.contains 0=false) (h9:I.contains 49=false) (hz:∀ x,x<w.heap.size->o x=0\/o x=49):Keep none_ w W' :=
 k0.trans' k (fun i hi hin=>(hz i hi).elim (fun e=>absurd hin (bI e h0)) (fun e=>absurd hin (bI e h9)))
theorem aN.lS (h:aN o w G g s m ev nv) (k:Keep (In o I) w w') (h0:I.contains 0=false) (hi:I.contains (20+m.id)=false) (e:aQ w o o') (hs:ShAt o' w' G s') (hl:s'.boxes.length=s.boxes.length) (hc:s'.H.c=s.H.c):aN o' w' G g s' m ev nv:=by
 obtain ⟨pv,rv,h1,h2,h3⟩:=h.blk
 have k':=k.rO e
 obtain ⟨_,v,hb,_⟩:=id h.buf
 exact ⟨hs,⟨pv,rv,h1.aH k h.oM hi,(h2.ext e).aH k' h0,(h3.ext e).aH k' hi⟩,(e _ h1.lt).trans h.oM,h.regs.aH k h.oX hi,(e _ h.regs.lt).trans h.oX,(h.buf.ext e).aH k' h0 ((e _ hb.lt).trans h.wO) hi,(e _ hb.lt).trans h.wO,h.nt.aH k h.sN h0,(e _ h.nt.lt).trans h.sN,by rw [hl];exact h.jm,by rw [hl];exact h.box8,h.conf.trans hc.symm,h.rlen,h.wP⟩
theorem kU.lS (h:kU o w G g s m) (k:Keep (In o I) w w') (h0:I.contains 0=false) (hi:I.contains (20+m.id)=false) (hj:I.contains (30+m.id)=false) (e:aQ w o o') (hs:ShAt o' w' G s') (hl:s'.boxes.length=s.boxes.length) (hc:s'.H.c=s.H.c):kU o' w' G g s' m:=by
 obtain ⟨ev,nv,h1,hn⟩:=h
 exact ⟨ev,nv,h1.lS k h0 hi e hs hl hc,(hn.ext e).aH (k.rO e) h0 hj⟩
theorem aP.lS (h:aP o w G q s c ev nv) (k:Keep (In o I) w w') (h5:I.contains 5=false) (e:aQ w o o') (hs:ShAt o' w' G s') (hl:s'.boxes.length=s.boxes.length):aP o' w' G q s' c ev nv:=by
 obtain ⟨v,h1,_⟩:=id h.stk
 have oK:=(e _ h1.lt).trans h.oK
 exact ⟨hs,h.blk.aH k h.oC h5,(e _ h.blk.lt).trans h.oC,(h.stk.ext e).aH oK (k.rO e) h5,oK,by rw [hl];exact h.box8⟩
theorem gG.lS (h:gG o w G q s c) (k:Keep (In o I) w w') (h0:I.contains 0=false) (h5:I.contains 5=false) (h40:I.contains 40=false) (e:aQ w o o') (hs:ShAt o' w' G s') (hl:s'.boxes.length=s.boxes.length):gG o' w' G q s' c:=by
 obtain ⟨ev,nv,h1,hn⟩:=h
 exact ⟨ev,nv,h1.lS k h5 e hs hl,(hn.ext e).aH (k.rO e) h0 h40⟩
theorem kU.sh (h:kU o w G g s m):ShAt o w G s:=by
 obtain ⟨ev,nv,h1,_⟩:=h
 exact h1.sh
theorem kU.jm (h:kU o w G g s m):m.id<s.boxes.length/\s.boxes.length<=8:=by
 obtain ⟨ev,nv,h1,_⟩:=h
 exact ⟨h1.jm,h1.box8⟩
theorem gG.sh (h:gG o w G q s c):ShAt o w G s:=by
 obtain ⟨ev,nv,h1,_⟩:=h
 exact h1.sh
theorem gG.box8 (h:gG o w G q s c):s.boxes.length<=8:=by
 obtain ⟨ev,nv,h1,_⟩:=h
 exact h1.box8
structure CW (w W:World) (o:Ow) (G:Geo) (gs:List MG) (q:CG) (x:WS):Prop where
 coll:gG o W G q x.s x.coll
 len:gs.length=x.muts.length
 dK:∀ (i:Nat) g m,gs[i]?=some g->x.muts[i]?=some m->kU o W G g x.s m/\m.id=i
 low:∀ b,b<w.heap.size->o b=0\/o b=49
 keep:Keep none_ w W
variable {gs:List MG} {x y:WS}
theorem CW.rX (h:CW w W o G gs q x) (k:Keep none_ W W'):CW w W' o G gs q x :=
 ⟨h.coll.still k,h.len,fun i g m h1 h2=>⟨(h.dK i g m h1 h2).1.still k,(h.dK i g m h1 h2).2⟩,h.low,h.keep.trans k⟩
theorem CW.xK (h:CW w W o G gs q x) (k:Keep (In o I) W W') (hI:I.all (fun i=>decide (50<=i))=true) (e:aQ W o o') (hf:gX o' W'):CW w W' o' G gs q x:=by
 have hge:∀ i,i<50->I.contains i=false:=fun i hi=>by
  rw [Bool.eq_false_iff]
  intro hc
  have:=List.all_eq_true.1 hI i (by simpa using hc)
  simp at this;omega
 have hs:ShAt o' W' G x.s:=h.coll.sh.move k (List.all_eq_true.2 (fun i hi=>by have:=List.all_eq_true.1 hI i hi;simp at this ⊢;omega)) h.coll.box8 e hf
 refine ⟨h.coll.lS k (hge 0 (by decide)) (hge 5 (by decide)) (hge 40 (by decide)) e hs rfl,h.len,fun i g m h1 h2=>?_,fun b hb=>by rw [e b (Nat.lt_of_lt_of_le hb h.keep.size)];exact h.low b hb,h.keep.Nk k (hge 0 (by decide)) (hge 49 (by decide)) h.low⟩
 obtain ⟨g1,g2⟩:=h.dK i g m h1 h2
 have:=g1.jm
 exact ⟨g1.lS k (hge 0 (by decide)) (hge _ (by omega)) (hge _ (by omega)) e hs rfl rfl,g2⟩
theorem CW.tell (h:CW w W o G gs q x) (hy:y.s=x.s/\y.muts=x.muts/\y.coll=x.coll):CW w W o G gs q y:=by
 obtain ⟨e1,e2,e3⟩:=hy
 exact ⟨by rw [e1,e3];exact h.coll,by rw [e2];exact h.len,by rw [e1,e2];exact h.dK,h.low,h.keep⟩
theorem CW.pick {N:Nat} (h:CW w W o G gs q x) (ok:oq N x) (hN:N<=1000000000) {i:Nat} {m:MS} (hg:gs[i]?=some g) (hm:x.muts[i]?=some m) (hst:CQ m.next):Calls ay 24 #[aj g.M] W fun e W'=>e = .returned (.tuple #[kX (bG x.s m).2.2,jq (bG x.s m).2.2])/\∃ o',aQ W o o'/\CW w W' o' G gs q (bP x i)/\Keep (In o (bW i)) W W':=by
 obtain ⟨g1,g2⟩:=h.dK i g m hg hm
 obtain ⟨k1,k2⟩:=ok.dK i m hm
 refine (VD g1 k2 hN hst).mono ?_
 rintro e W' ⟨o',rfl,eo,hq,k⟩
 have hsh:=Nj x.s m
 have ady:=PY k2
 have abe:=g1.jm
 rw [g2] at k abe
 have h0:=kT i
 have h5:(bW i).contains 5=false:=by simp [bW];omega
 have h40:(bW i).contains 40=false:=by simp [bW];omega
 refine ⟨rfl,o',eo,?_,k⟩
 have ew:bP x i=({ x with s:=(bG x.s m).1,muts:=x.muts.set i (bG x.s m).2.1 }:WS).tell (bG x.s m).2.2:=by
  unfold bP
  rw [hm]
 rw [ew]
 have hcw:CW w W' o' G gs q { x with s:=(bG x.s m).1,muts:=x.muts.set i (bG x.s m).2.1 }:=by
  refine ⟨h.coll.lS k h0 h5 h40 eo hq.sh hsh.bl,by show gs.length=(x.muts.set i _).length;rw [List.length_set];exact h.len,fun j g' m' h1 h2=>?_,fun b hb=>by rw [eo b (Nat.lt_of_lt_of_le hb h.keep.size)];exact h.low b hb,h.keep.Nk k h0 (by simp [bW];omega) h.low⟩
  by_cases hij:i=j
  ·subst hij
   have hlt:=(List.getElem?_eq_some_iff.1 hm).1
   have h2':(x.muts.set i (bG x.s m).2.1)[i]?=some m':=h2
   rw [List.getElem?_set_self hlt] at h2'
   cases h2'
   rw [hg] at h1
   cases h1
   exact ⟨hq,ady.2.2.1.trans g2⟩
  ·have h2':(x.muts.set i (bG x.s m).2.1)[j]?=some m':=h2
   rw [List.getElem?_set_ne hij] at h2'
   obtain ⟨g3,g4⟩:=h.dK j g' m' h1 h2'
   have hj:=g3.jm
   exact ⟨g3.lS k h0 (by rw [g4];rw [g4] at hj;simp [bW];omega) (by rw [g4];rw [g4] at hj;simp [bW];omega) eo hq.sh hsh.bl hsh.c,g4⟩
 obtain ⟨e1,e2,e3,_⟩:=WS.nP { x with s:=(bG x.s m).1,muts:=x.muts.set i (bG x.s m).2.1 } (bG x.s m).2.2
 exact hcw.tell ⟨e1,e2,e3⟩
theorem CW.Yh {N:Nat} (h:CW w W o G gs q x) (ok:oq N x) (hN:N<=1000000000):Calls ay 12 #[aj q.C] W fun e W'=>e = .returned (.tuple #[kX (bM x.s x.coll).ev,jq (bM x.s x.coll).ev])/\∃ o',aQ W o o'/\CW w W' o' G gs q (bP x x.muts.length)/\Keep (In o aY) W W':=by
 refine (Vy h.coll ok.coll hN).mono ?_
 rintro e W' ⟨o',rfl,eo,hq,k⟩
 have hsh:=Yg x.s x.coll
 refine ⟨rfl,o',eo,?_,k⟩
 have ew:bP x x.muts.length=({ x with s:=(bM x.s x.coll).s,coll:=(bM x.s x.coll).c }:WS).tell (bM x.s x.coll).ev:=by
  unfold bP
  rw [List.getElem?_eq_none (Nat.le_refl _)]
  simp only [if_true]
 rw [ew]
 have hcw:CW w W' o' G gs q { x with s:=(bM x.s x.coll).s,coll:=(bM x.s x.coll).c }:=by
  refine ⟨hq,h.len,fun j g' m' h1 h2=>?_,fun b hb=>by rw [eo b (Nat.lt_of_lt_of_le hb h.keep.size)];exact h.low b hb,h.keep.Nk k eY (by decide) h.low⟩
  obtain ⟨g3,g4⟩:=h.dK j g' m' h1 h2
  have hj:=g3.jm
  exact ⟨g3.lS k eY (by simp [aY];omega) (by simp [aY];omega) eo hq.sh hsh.bl hsh.c,g4⟩
 obtain ⟨e1,e2,e3,_⟩:=WS.nP { x with s:=(bM x.s x.coll).s,coll:=(bM x.s x.coll).c } (bM x.s x.coll).ev
 exact hcw.tell ⟨e1,e2,e3⟩
theorem CW.wish (h:CW w W o G gs q x):Calls ay 14 #[aj q.C] W fun e W'=>e = .returned (.tuple #[])/\CW w W' o G gs q (bP x (x.muts.length+1))/\Keep (In o [5]) W W':=by
 refine (VI h.coll).mono ?_
 rintro e W' ⟨rfl,hq,k⟩
 refine ⟨rfl,?_,k⟩
 have ew:bP x (x.muts.length+1)=({ x with coll:={ x.coll with wish:=true } }:WS).tell none:=by
  unfold bP
  rw [List.getElem?_eq_none (by omega)]
  simp only
  rw [if_neg (by omega)]
 rw [ew]
 have hcw:CW w W' o G gs q { x with coll:={ x.coll with wish:=true } }:=by
  refine ⟨hq,h.len,fun j g' m' h1 h2=>?_,h.low,h.keep.Nk k rfl rfl h.low⟩
  obtain ⟨g3,g4⟩:=h.dK j g' m' h1 h2
  have hj:=g3.jm
  exact ⟨g3.lS k rfl (by simp;omega) (by simp;omega) (aQ.refl _ _) hq.sh rfl rfl,g4⟩
 obtain ⟨e1,e2,e3,_⟩:=WS.nP { x with coll:={ x.coll with wish:=true } } none
 exact hcw.tell ⟨e1,e2,e3⟩
end
end
section
def zK (stop:Sh->MS->Bool):Nat->Sh->MS->Sh × MS
 | 0,s,m=>(s,m)
 | f+1,s,m=>if stop s m then (s,m) else zK stop f (bG s m).1 (bG s m).2.1
def HS.ig:HS->List Nat->HS
 | H,[]=>H
 | H,a::l=>(H.fK a).ig l
def HS.dQ (H:HS) (k:Nat):Nat × Nat × HS :=
 if (H.eX k).2.1=0 then ((H.eX k).1,0,(H.eX k).2.2)
 else if (H.dF k).2.1=0 then ((H.dF k).1.headD 0,0,((H.dF k).2.2).ig (H.dF k).1.tail.reverse)
 else (0,10,H)
def HS.kJ (H:HS) (a:Nat):Nat->HS
 | 0=>H
 | i+1=>(H.kJ a i).gu a (i:Int) 0
def HS.nH (H:HS) (f c:Nat):Nat × HS :=
 if (H.dQ (jF f)).2.1=0 then ((H.dQ (jF f)).1,(((H.dQ (jF f)).2.2.iy (H.dQ (jF f)).1 f).kJ (H.dQ (jF f)).1 f).jO (H.dQ (jF f)).1 c)
 else (0,(H.dQ (jF f)).2.2)
def lgC (ww st:Nat):aK:=⟨1,ww,1,2,1,4,st⟩
def adz (ww st:Nat):HS:=((HS.new (lgC ww st) 1 ww 1).nH 1 0).2
def adA (ww st:Nat):HS:=((adz ww st).nH 1 0).2
def lgS (ww st:Nat):Sh:={ Sh.new (lgC ww st) 1 ww 1 1 with H:=(adA ww st).oG 0 1 }
def lgM (ww st:Nat):MS:=MS.new (lgS ww st).H.c 0 [⟨4,1,0,0⟩,⟨4,0,0,0⟩,⟨5,0,1,0⟩]
def Y9 (ww st:Nat):Sh × MS:=zK (fun _ m=>decide (1<=m.res.length)) 19 (lgS ww st) (lgM ww st)
def lgB (ww st:Nat):Sh × MS:=({ (Y9 ww st).1 with H:=(Y9 ww st).1.H.oG 0 3 },(Y9 ww st).2)
def lgK (i:Nat):Nat:=if i=0 then 1 else if i=1 then 5 else 7
def Nl (ww st:Nat):Nat->Sh × MS
 | 0=>lgB ww st
 | i+1=>zK (fun s _=>s.B.all) 199 { (Nl ww st i).1 with B:=(Nl ww st i).1.B.oU (lgK i:Int) } (Nl ww st i).2
def VK (ww st i:Nat):Sh × MS:=zK (fun _ m=>iI m) 199 (Nl ww st i).1 (Nl ww st i).2
def aek (ww st i:Nat):Bool :=
 let e:=VK ww st i
 let l:=e.2.buf++e.1.box 0
 if i=1 then l.contains 1&&l.contains 3 else if i=2 then l.contains 3 else e.2.buf.isEmpty&&iI e.2
def adV (ww st:Nat):Bool :=
 decide (1<=(Y9 ww st).2.res.length)&&((List.range 3).all fun i=>(Nl ww st (i+1)).1.B.all)&&((List.range 4).all fun i=>iI (VK ww st i).2)&&((List.range 4).all fun i=>decide ((Nl ww st i).1.B.count=i)) &&
  ((List.range 4).all fun i=>decide ((VK ww st i).1.boxes.length=1))&&((List.range 4).all fun i=>decide (((VK ww st i).1.box 0).length<=10)&&decide ((VK ww st i).2.buf.length<=10))
end
section
attribute [local go_sem] Oper.semAt_some
open Go.RowKit
theorem VL (xs:List Nat) (pB X off cap:Nat) (hn:xs.length<=4096) (m:Nat) (w:World) (cs:List Value) (hbp:aA w pB [.slice (some ⟨X,off,none⟩) xs.length cap] 32) (hbx:aA w X cs 3) (hcs:∀ q,q<xs.length->cs[off+q]?=some (ah ((xs.getD q 0:Nat):Int))) :
 D7 Fence.wide m ay 170 #[aj pB] (pF xs) zl (qN pB X) w:=by
 intro l J Jx W hW hJ hJx hY h0
 have hbp1:=hW.blk hbp (fun f=>f)
 have hbx1:=hW.blk hbx (fun f=>f)
 have hc0:=hbp1.cell 0 (v := .slice (some ⟨X,off,none⟩) xs.length cap) rfl
 have HLEN:=au (qY xs)
 have HAT:Hid (∀ j q,j+q+1=xs.length->(pF xs)[j]?=some (q,xs.getD q 0)):=fun j q e=>by
  rw [zD (by omega),show xs.length - 1 - j=q by omega]
 have HV:Hid (∀ q wr,q<xs.length->aA wr X cs 3->wr.cell? ⟨X,off+q,none⟩=some (ah ((xs.getD q 0:Nat):Int))):=fun q wr hq hb=>hb.cell (off+q) (hcs q hq)
 have I9:(xs.length:Int)<=4096:=by omega
 have hw0:IntKind.i64.wrap ((xs.length:Int) - 1)=(xs.length:Int) - 1:=IntWalk.i64_in _ (by omega)
 generalize pF xs=L at *
 obtain ⟨at_,hat⟩:∃ f:Nat->Nat,f=fun q=>xs.getD q 0:=⟨_,rfl⟩
 have X5:Hid (∀ j q,j+q+1=xs.length->L[j]?=some (q,at_ q)):=fun j q e=>by rw [hat];exact HAT.out j q e
 have HV2:Hid (∀ q wr,q<xs.length->aA wr X cs 3->wr.cell? ⟨X,off+q,none⟩=some (ah ((at_ q:Nat):Int))):=fun q wr h1 h2=>by rw [hat];exact HV.out q wr h1 h2
 clear HAT HV hat hbx hbp hcs
 generalize xs.length=n at *
 refine callsIn_of_wp func170 rfl trivial ?_ rfl
 simp only [ntmps170,List.size_toArray,List.length_cons,List.length_nil,Nat.reduceAdd,Nat.reduceSub,Array.replicate_succ,Array.replicate_zero,List.push_toArray,List.append_toArray,List.nil_append,List.cons_append]
 gi_wp2_with fail
 gi_loopw [3] (fun v wr=>∃ (j:Nat) (i:Int),j<=n/\i=(n:Int) - 1 - j/\v = ah i/\J j wr/\Holds (qN pB X) W wr) (fun v _=>(intOf v+1).toNat)
 case atStart=>exact ⟨0,_,by omega,by omega,rfl,h0,Holds.refl _ _⟩
 case round =>
  obtain ⟨j,i,hj,hi,rfl,uU,hH⟩:=hrel
  have b1:=hH.blk (.inl rfl) hbp1
  have b2:=hH.blk (.inr rfl) hbx1
  have c1:=b1.cell 0 (v := .slice (some ⟨X,off,none⟩) n cap) rfl
  by_cases hlt:j<n
  ·obtain ⟨q,rfl⟩:∃ q:Nat,i=(q:Int):=⟨i.toNat,by omega⟩
   have hq:j+q+1=n:=by omega
   have hqn:q<n:=by omega
   have hq0:(0:Int)<=(q:Int):=by omega
   have Jb:(q:Int)<(n:Int):=by omega
   have c2:=HV2.out q wr hqn b2
   have hL:=X5.out j q hq
   have hwq:IntKind.i64.wrap ((q:Int) - 1)=(q:Int) - 1:=IntWalk.i64_in _ (by omega)
   generalize at_ q=x at *
   have HY:=au hY
   have HJ:=au uU
   have HQ:=au hq
   clear hY uU hi hq
   obtain ⟨fn,tmps,assign,body,hy,hR⟩:=HY.out j (q,x) #[ah (q:Int),ah (x:Int)] wr hL HJ.out rfl
   gi_wp2_with fail
   refine ⟨fun h=>(by cases h),hR.mono ?_⟩
   rintro e W' (⟨rfl,hJ',hk⟩|⟨rfl,D8⟩)
   ·gi_wp2_with fail
    go_roundw
    case rel=>exact ⟨j+1,(q:Int) - 1,by omega,by have:=HQ.out;omega,by go_num,hJ',hH.trans hk⟩
    case measure=>simp [intOf]<;>omega
   ·gi_wp2_with fail
    refine bodyPost_ret (results_none rfl _ _ _) rfl ?_
    exact ⟨⟨_,rfl⟩,.inr ⟨j+1,by rw [HLEN.out];omega,D8⟩⟩
  ·clear hY
   obtain rfl:i = -1:=by omega
   have KI:Hid (j=n):=by unfold Hid;omega
   clear hi
   gi_wp2_with fail
   go_end0
   exact ⟨⟨_,rfl⟩,.inl (by rw [HLEN.out,<- KI.out];exact uU)⟩
section
variable {w w':World} {D:Nat->Nat} {H:HS}
theorem Jj:∀ (l:List Nat) (H:HS) (a:Nat),H.ig (l++[a])=(H.ig l).fK a
 | [],_,_=>rfl
 | b::l,H,a=>Jj l (H.fK b) a
structure Jk (w:World) (D:Nat->Nat) (N b g:Nat) (cs:List Value) (H:HS) (xs:List Nat) (j:Nat) (W:World):Prop where
 keep:Keep (HF D) w W
 heap:aF W D (H.ig ((xs.reverse).take j))
 hb:aA W b [aj (D 0)] 47
 hg:aA W g cs 3
 big:N<=W.heap.size
theorem Jk.own {N b g:Nat} {cs:List Value} {xs:List Nat} {B:Nat} (hB:w.heap.size<=B) (hD:∀ i,i<13->D i<B) (hg:3<B/\4<B/\2<B):OwnFrom B (Jk w D N b g cs H xs):=by
 rintro j W W' row ⟨h1,h2,h3,h4,hN⟩ hgr hr
 have k:Keep (fun i=>row=some i) W W':=⟨hgr.os,hgr.tape,hgr.output,hgr.size,fun x hx n=>hgr.block x hx (fun e=>n e.symm)⟩
 have hne:∀ i,i<B->¬ row=some i:=fun i hi e=>by have:=(hr i e).1;omega
 exact ⟨rJ (β:=Nat) hB j W W' row h1 hgr hr,h2.keep k (fun i hi=>hne _ (hD i hi)) (hne _ hg.1) (hne _ hg.2.1) (hne _ hg.2.2),jE (β:=Nat) (cs:=fun _=>_) j W W' row h3 hgr hr,jE (β:=Nat) (cs:=fun _=>_) j W W' row h4 hgr hr,Nat.le_trans hN hgr.size⟩
theorem SN (h:aF w D H) (k:Nat) (hk:k<4) (ht:(H.eX k).2.1=0):Calls ay 114 #[aj (D 0),ah (k:Int)] w fun e w'=>e = .returned (.tuple #[ah ((H.dQ k).1:Int),ah ((H.dQ k).2.1:Int)])/\aF w' D (H.dQ k).2.2/\Keep (HF D) w w':=by
 have e:H.dQ k=((H.eX k).1,0,(H.eX k).2.2):=by unfold HS.dQ;rw [if_pos ht]
 rw [e]
 have HT:Hid (∀ x,Calls ay 159 #[aj (D 0),ah (k:Int)] (w.alloc x) fun e w'=>e = .returned (.tuple #[ah ((H.eX k).1:Int),ah 0])/\aF w' D (H.eX k).2.2/\Keep (HF D) w w'):=fun x=>by
  have k1:Keep none_ w (w.alloc x):=(Keep.refl _ _).alloc x
  refine (AP (h.still k1) k hk).mono ?_
  rintro e w' ⟨rfl,h1,k2⟩
  rw [ht]
  exact ⟨rfl,h1,(k1.mono (fun _ _ f=>f.elim)).trans k2⟩
 generalize (H.eX k).1=a at *
 generalize (H.eX k).2.2=H2 at *
 clear h ht e
 go_enter func114,ntmps114
 go_wp2_with fail
 refine (HT.out _).mono ?_
 rintro e w1 ⟨rfl,h1,k1⟩
 have HE:=au (And.intro h1 k1)
 clear h1 k1 HT
 go_wp2_with fail
 go_ret2
 exact ⟨rfl,HE.out.1,HE.out.2⟩
theorem Np (h:aF w D H) (k:Nat) (hk:k<4) (ht:(H.eX k).2.1≠0) (ha:(H.dF k).2.1=0) (h2:2<=(H.dF k).1.length) (h4:(H.dF k).1.length<=256):Calls ay 114 #[aj (D 0),ah (k:Int)] w fun e w'=>e = .returned (.tuple #[ah ((H.dQ k).1:Int),ah ((H.dQ k).2.1:Int)])/\aF w' D (H.dQ k).2.2/\Keep (HF D) w w':=by
 have e:H.dQ k=((H.dF k).1.headD 0,0,((H.dF k).2.2).ig (H.dF k).1.tail.reverse):=by unfold HS.dQ;rw [if_neg ht,if_pos ha]
 rw [e]
 have ht12:(H.eX k).2.1=12/\(H.eX k).2.2=H:=by
  unfold HS.eX at ht ⊢
  split
  ·exact ⟨rfl,rfl⟩
  ·rename_i e;rw [e] at ht;exact absurd rfl ht
 obtain ⟨W0,hW0⟩:∃ W0,W0=w.alloc (.cells #[aj (D 0)] 47):=⟨_,rfl⟩
 have k0:Keep none_ w W0:=by rw [hW0];exact (Keep.refl _ _).alloc _
 have hb0:aA W0 w.heap.size [aj (D 0)] 47:=by rw [hW0];exact aA.new w _ _
 have VN:∀ i,i<13->D i<w.heap.size:=h.ltD
 have abG:=h.Fz
 have HT:=au (AP (h.still k0) k hk)
 rw [ht12.1,ht12.2] at HT
 have HA:Hid (∀ W,aF W D H->Calls ay 160 #[aj (D 0),ah (k:Int)] W fun e w'=>∃ v,e = .returned (.tuple #[v,ah 0])/\w'.ownsRow W.heap.size 3 1 v (H.dF k).1.length (aG (H.dF k).1)/\aF w' D (H.dF k).2.2/\Keep (HF D) W w'):=fun W hW=>by
  have h9:=Dv hW k hk
  rw [ha] at h9
  exact h9
 generalize (H.dF k).2.2=H2 at *
 obtain ⟨x0,xs,hall⟩:∃ x0 xs,(H.dF k).1=x0::xs:=by
  cases hh:(H.dF k).1 with
  | nil=>rw [hh] at h2;simp at h2
  | cons x l=>exact ⟨x,l,rfl⟩
 rw [hall] at HA h2 h4 ⊢
 simp only [List.length_cons,List.headD_cons,List.tail_cons] at HA h2 h4 ⊢
 have hx1:1<=xs.length/\xs.length<=255:=by omega
 have Qi:=au hx1
 have HW0:=au hW0
 have dN:=au k0
 have HB0:=au hb0
 have Gl:=au VN
 have uY:=au abG
 clear h ht ha e ht12 hall h2 h4 hW0 k0 hb0 VN abG hx1
 refine (callsIn_wide (n:=9)).1 ?_
 refine callsIn_of_wp_marks func114 rfl trivial ?_ rfl
 refine wpIn_wide.2 ?_
 simp only [ntmps114,List.size_toArray,List.length_cons,List.length_nil,Nat.reduceAdd,Nat.reduceSub,Array.replicate_succ,Array.replicate_zero,List.push_toArray,List.append_toArray,List.nil_append,List.cons_append]
 go_wp2_with fail
 rw [<- HW0.out]
 refine HT.out.mono ?_
 rintro e w1 ⟨rfl,h1,k1⟩
 have kb:∀ i,i<13->w.heap.size≠D i:=fun i hi=>by have:=Gl.out i hi;omega
 have hb1:aA w1 w.heap.size [aj (D 0)] 47:=k1.blk HB0.out (fun ⟨i,hi,e⟩=>kb i hi e)
 have c1:w1.cell? ⟨w.heap.size,0,none⟩=some (aj (D 0)):=hb1.cell 0 rfl
 have HA1:=au (HA.out w1 h1)
 have aJ:Hid (Keep (HF D) w w1):=(dN.out.mono (fun _ _ f=>f.elim)).trans k1
 have HB1:=au hb1
 have jJ:Hid (w.heap.size<w1.heap.size):=hb1.lt
 clear h1 k1 hb1 HT HA HB0 kb
 go_wp2_with fail
 refine HA1.out.mono ?_
 rintro e w2 ⟨v,rfl,hown,h2,k2⟩
 obtain ⟨g,cap,cur,rfl,hg0,hg,hnc,hcc⟩:∃ g cap cur,v = .slice (some ⟨g,0,none⟩) (xs.length+1) cap/\w1.heap.size<=g/\aA w2 g cur 3/\xs.length+1<=cap/\∀ j u,(aG (x0::xs))[j]?=some u->cur[j]?=some u:=by
  rcases hown.2 with ⟨_,h0⟩|⟨g,cap,cur,e1,hg0,hg,hn,_,hs,hc⟩
  ·omega
  ·refine ⟨g,cap,cur.toList,e1,hg0,by unfold aA;simpa using hg,hn,fun j u hj=>?_⟩
   have h9:=hj
   rw [<- hc] at h9
   have hlt:=(List.getElem?_eq_some_iff.1 h9).1
   rw [List.getElem?_take_of_lt (by simp at hlt;omega)] at h9
   exact h9
 have hcut:∀ w,(Instr.slice 32 (.slice (some ⟨g,0,none⟩) (xs.length+1) cap) (some (ah 1)) none none).run ay w = .ok (.slice (some ⟨g,1,none⟩) xs.length (cap - 1)) w:=fun w=>by
  have h9:=Cj (P:=ay) (T:=32) (e:=3) (by kernel_rfl) (by kernel_rfl) (some ⟨g,0,none⟩) (xs.length+1) cap 1 (by omega) w
  have e1:oP (some ⟨g,0,none⟩) cap 1=some ⟨g,1,none⟩:=by
   unfold oP
   rw [if_neg (by have:=Qi.out;omega)]
   simp [Addr.add]
  rw [e1,Nat.add_sub_cancel] at h9
  exact h9
 have hb2:aA w2 w.heap.size [aj (D 0)] 47:=k2.blk HB1.out (fun ⟨i,hi,e⟩=>by have:=Gl.out i hi;omega)
 have hs2:=k2.size
 have hs1:=jJ.out
 obtain ⟨W3,hW3⟩:∃ W3,W3=w2.alloc (.cells #[.slice (some ⟨g,1,none⟩) xs.length (cap - 1)] 32):=⟨_,rfl⟩
 have k3:Keep none_ w2 W3:=by rw [hW3];exact (Keep.refl _ _).alloc _
 have hb3:aA W3 w2.heap.size [.slice (some ⟨g,1,none⟩) xs.length (cap - 1)] 32:=by rw [hW3];exact aA.new w2 _ _
 have e3:W3.heap.size=w2.heap.size+1:=by rw [hW3];simp
 have XY:=hg.lt
 have GU:Hid (D7 Fence.wide 8 ay 170 #[aj w2.heap.size] (pF xs) zl (qN w2.heap.size g) W3):=VL xs w2.heap.size g 1 (cap - 1) (by have:=Qi.out;omega) 8 W3 cur hb3 (k3.blk hg (fun f=>f)) (fun q hq=>by
  refine hcc (1+q) _ ?_
  rw [Nat.add_comm]
  unfold aG
  rw [List.map_cons,List.getElem?_cons_succ,List.getElem?_map,List.getElem?_eq_getElem hq,List.getD_eq_getElem?_getD,List.getElem?_eq_getElem hq];rfl)
 have HI0:Hid (Jk w D W3.heap.size w.heap.size g cur H2 xs 0 W3):=⟨(aJ.out.trans k2).trans (k3.mono (fun _ _ f=>f.elim)),by rw [List.take_zero];exact h2.still k3,k3.blk hb2 (fun f=>f),k3.blk hg (fun f=>f),Nat.le_refl _⟩
 have HGX:Hid (∀ i,qN w2.heap.size g i->i<W3.heap.size/\∀ j,j<13->i≠D j):=by
  rintro i (rfl|rfl)
  ·exact ⟨by omega,fun j hj e=>by have:=Gl.out j hj;omega⟩
  ·exact ⟨by omega,fun j hj e=>by have:=Gl.out j hj;omega⟩
 have HOWN:Hid (OwnFrom W3.heap.size (Jk w D W3.heap.size w.heap.size g cur H2 xs)):=Jk.own (by omega) (fun i hi=>by have:=Gl.out i hi;omega) (by have:=uY.out;omega)
 have wF:Hid (cur[0]?=some (ah (x0:Int))):=hcc 0 _ rfl
 have Nq:Hid (w.heap.size<g/\w.heap.size<W3.heap.size):=⟨by omega,by omega⟩
 have HW3:=au hW3
 have c2:w2.cell? ⟨w.heap.size,0,none⟩=some (aj (D 0)):=hb2.cell 0 rfl
 clear hown h2 k2 hg0 hg hcc hb2 hs2 hs1 k3 hb3 e3 XY hW3 HA1 aJ HB1 jJ c1
 go_wp2_with fail
 refine (I8 _ _ _ _).mono ?_
 rintro e w4 ⟨rfl,hw4⟩
 rw [<- HW3.out] at hw4
 subst hw4
 clear c2 hcut
 go_wp2_with fail
 refine wpIn_wide (n:=9) |>.1 ?_
 refine GL rfl (by decide) (gf:=170) (lb:=#[aj w2.heap.size]) rfl trivial (fun args w=>by simp [callFunc,func170,go_sem];rfl) (all:=pF xs) (Enc:=zl) (G:=qN w2.heap.size g)
  GU.out ?hG ?hps (fun j W=>Jk w D w4.heap.size w.heap.size g cur H2 xs j W) (fun _ _ _=>False) ?hI ?hIx ?h0 ?round ?done ?stop
 case hI=>exact HOWN.out
 case hIx=>exact fun c s W W' row h hg hr=>h
 case h0=>exact HI0.out
 case hG=>exact fun i hi=>(HGX.out i hi).1
 case hps =>
  rintro W x args h
  rw [h];rfl
 case stop=>exact fun D c k W hD hk h=>h.elim
 case round =>
  rintro l j x args W hx henc hI
  have hj:j<xs.length:=by
   have h:=(List.getElem?_eq_some_iff.1 hx).1
   rwa [qY] at h
  rw [zD hj] at hx
  injection hx with hx
  subst hx
  obtain ⟨x,hx⟩:∃ x,x=xs.getD (xs.length - 1 - j) 0:=⟨_,rfl⟩
  obtain ⟨y,hy⟩:∃ y:Nat,y=xs.length - 1 - j:=⟨_,rfl⟩
  obtain rfl:args=#[ah (y:Int),ah (x:Int)]:=by rw [hx,hy];exact henc
  have hsn:(xs.reverse).take (j+1)=(xs.reverse).take j++[x]:=by
   rw [List.take_add_one,List.getElem?_reverse hj,hx,List.getD_eq_getElem?_getD]
   rw [List.getElem?_eq_getElem (by omega)];rfl
  have Qm:=au hsn
  clear hx hy henc hsn
  have HI:=au hI
  clear hI
  gi_wp2_with fail
  refine ⟨fun W=>Jk w D w4.heap.size w.heap.size g cur H2 xs j W,KeepsFrom.refl _ _,Holds.refl _ _,HI.out,(fun _ W' W'' row h hg hr=>HOWN.out j W' W'' row h hg hr),?_⟩
  clear HI
  rintro W2 hI
  have c2:W2.cell? ⟨w.heap.size,0,none⟩=some (aj (D 0)):=hI.hb.cell 0 rfl
  have HP:=au (XE hI.heap x)
  have HI:=au hI
  clear hI
  gi_wp2_with fail
  refine ⟨trivial,CallsIn.mono (CallsIn.inRound l (callsIn_wide.2 HP.out)) ?_⟩
  rintro e w5 ⟨⟨er,rfl⟩,h5,k5⟩
  have fD:Hid (KeepsFrom w4.heap.size W2 w5/\Holds (qN w2.heap.size g) W2 w5/\Jk w D w4.heap.size w.heap.size g cur H2 xs (j+1) w5):=by
   have hbig:=HI.out.big
   refine ⟨⟨k5.size,fun i oo hB hq ho=>(k5.block i (Array.getElem?_eq_some_iff.1 hq).1 (fun ⟨q,hq2,e⟩=>by have:=Gl.out q hq2;have:=Nq.out;omega)).trans hq⟩,?_,HI.out.keep.trans k5,?_,k5.blk HI.out.hb (fun ⟨i,hi,e⟩=>by have:=Gl.out i hi;omega),k5.blk HI.out.hg (fun ⟨i,hi,e⟩=>by have:=Gl.out i hi;have:=Nq.out;omega),Nat.le_trans hbig k5.size⟩
   ·exact Holds.rH k5 (fun i hi=>⟨Nat.lt_of_lt_of_le (HGX.out i hi).1 hbig,fun ⟨q,hq,e⟩=>(HGX.out i hi).2 q hq e⟩)
   ·rw [Qm.out,Jj];exact h5
  clear h5 k5 HP c2
  gi_wp2_with fail
  exact ⟨fD.out.1,fD.out.2.1,fD.out.2.2⟩
 case done =>
  rintro D5 W hD hI Dq
  rw [qY] at hI
  have c0:W.cell? ⟨g,0,none⟩=some (ah (x0:Int)):=hI.hg.cell 0 wF.out
  have fD:Hid (aF (W.putObj D5 (.deferred none)) D (H2.ig xs.reverse)/\Keep (HF D) w (W.putObj D5 (.deferred none))):=by
   have hk9:Keep (fun i=>i=D5) W (W.putObj D5 (.deferred none)):=⟨rfl,rfl,rfl,by simp,fun q _ n=>World.putObj_heap_other n⟩
   have h9:=hI.heap
   rw [List.take_of_length_le (by simp)] at h9
   refine ⟨h9.keep hk9 (fun i hi e=>by have:=Gl.out i hi;have:=Nq.out;omega) (fun e=>by have:=uY.out;have:=Nq.out;omega) (fun e=>by have:=uY.out;have:=Nq.out;omega) (fun e=>by have:=uY.out;have:=Nq.out;omega),hI.keep.takeDeferred (D:=D5) (by have:=Nq.out;omega) (.deferred none)⟩
  clear hI
  go_wp2_with fail
  refine ⟨by simp,.inl ⟨_,_,rfl,run_takeDeferred Dq,?_⟩⟩
  exact ⟨.tuple #[ah (x0:Int),ah 0],by simp [results,Tryz.f114,go_sem],rfl,fD.out.1,fD.out.2⟩
end
section
variable {w w':World} {D:Nat->Nat} {H:HS}
theorem Jl {f:Nat} (hf:f<=3):jF f<2:=by
 unfold jF
 split
 ·decide
 ·split
  ·decide
  ·split
   ·decide
   ·omega
theorem SQ (h:aF w D H) (k:Nat) (hk:k<4) (ht:(H.eX k).2.1≠0) (ha:(H.dF k).2.1≠0):Calls ay 114 #[aj (D 0),ah (k:Int)] w fun e w'=>e = .returned (.tuple #[ah ((H.dQ k).1:Int),ah ((H.dQ k).2.1:Int)])/\aF w' D (H.dQ k).2.2/\Keep (HF D) w w':=by
 have e:H.dQ k=(0,10,H):=by unfold HS.dQ;rw [if_neg ht,if_neg ha]
 rw [e]
 have ht12:(H.eX k).2.1=12/\(H.eX k).2.2=H:=by
  unfold HS.eX at ht ⊢
  split
  ·exact ⟨rfl,rfl⟩
  ·rename_i e;rw [e] at ht;exact absurd rfl ht
 have ha10:(H.dF k).2.1=10/\(H.dF k).2.2=H/\(H.dF k).1=[]:=by
  unfold HS.dF at ha ⊢
  split
  ·exact ⟨rfl,rfl,rfl⟩
  ·rename_i e;rw [e] at ha;exact absurd rfl ha
 obtain ⟨W0,hW0⟩:∃ W0,W0=w.alloc (.cells #[aj (D 0)] 47):=⟨_,rfl⟩
 have k0:Keep none_ w W0:=by rw [hW0];exact (Keep.refl _ _).alloc _
 have hb0:aA W0 w.heap.size [aj (D 0)] 47:=by rw [hW0];exact aA.new w _ _
 have VN:∀ i,i<13->D i<w.heap.size:=h.ltD
 have HT:Hid (Calls ay 159 #[aj (D 0),ah (k:Int)] W0 fun e w'=>(∃ a:Int,e = .returned (.tuple #[ah a,ah 12]))/\aF w' D H/\Keep (HF D) w w'/\w'.cell? ⟨w.heap.size,0,none⟩=some (aj (D 0))):=by
  refine (AP (h.still k0) k hk).mono ?_
  rintro e w' ⟨rfl,h1,k1⟩
  rw [ht12.1] at *
  rw [ht12.2] at h1
  refine ⟨⟨_,rfl⟩,h1,(k0.mono (fun _ _ f=>f.elim)).trans k1,(k1.blk hb0 (fun hh=>?_)).cell 0 rfl⟩
  obtain ⟨i,hi,e⟩:=hh
  have:=VN i hi
  omega
 have HA:Hid (∀ W,aF W D H->Keep (HF D) w W->Calls ay 160 #[aj (D 0),ah (k:Int)] W fun e w'=>(∃ a n c,e = .returned (.tuple #[.slice a n c,ah 10]))/\aF w' D H/\Keep (HF D) w w'):=fun W hW hk'=>by
  refine (Dv hW k hk).mono ?_
  rintro e w' ⟨v,rfl,ho,h1,k1⟩
  rw [ha10.1]
  rw [ha10.2.1] at h1
  obtain ⟨a,c,rfl,_⟩:=dP (bD ho (Nat.zero_le _))
  exact ⟨⟨_,_,_,rfl⟩,h1,hk'.trans k1⟩
 have HW0:=au hW0
 clear h ht ha e VN ht12 ha10 hb0 k0 hW0
 go_enter func114,ntmps114
 go_wp2_with fail
 rw [<- HW0.out]
 refine HT.out.mono ?_
 rintro e w1 ⟨⟨a,rfl⟩,h1,k1,z0⟩
 have HA1:=au (HA.out w1 h1 k1)
 clear h1 k1 HT HA
 go_wp2_with fail
 refine HA1.out.mono ?_
 rintro e w2 ⟨⟨a2,n2,c2,rfl⟩,h2,k2⟩
 have HE:=au (And.intro h2 k2)
 clear h2 k2 HA1 z0
 go_wp2_with fail
 go_ret2
 exact ⟨rfl,HE.out.1,HE.out.2⟩
theorem Nr (h:aF w D H) (k:Nat) (hk:k<2) (ha:(H.dF k).2.1=0):2<=(H.dF k).1.length/\(H.dF k).1.length<=256:=by
 have hn:=lD h.table.ok h.table.len h.cw
 unfold HS.dF at ha ⊢
 split at ha
 ·cases ha
 ·rename_i B hB
  have hlt:B<H.K.length:=by
   obtain ⟨hh,_⟩:=List.findIdx?_eq_some_iff_getElem.1 hB
   exact hh
  simp only [hB]
  unfold HS.slots
  have e1:(H.assign B k).K.getD B 0=k+1:=by
   show (H.K.set B (k+1)).getD B 0=_
   rw [List.getD_eq_getElem?_getD,List.getElem?_set_self hlt]
   rfl
  rw [e1,if_neg (by omega),vN]
  show 2<=H.ww/2^(k+1)/\H.ww/2^(k+1)<=256
  have h1:H.ww/2^(k+1)<=H.ww:=Nat.div_le_self _ _
  have h2:4<=H.ww/2^(k+1):=by
   rw [Nat.le_div_iff_mul_le (Nat.pos_of_ne_zero (by simp))]
   rcases (by omega:k=0\/k=1) with rfl|rfl<;>omega
  omega
theorem Jm (h:aF w D H) (k:Nat) (hk:k<2):Calls ay 114 #[aj (D 0),ah (k:Int)] w fun e w'=>e = .returned (.tuple #[ah ((H.dQ k).1:Int),ah ((H.dQ k).2.1:Int)])/\aF w' D (H.dQ k).2.2/\Keep (HF D) w w':=by
 by_cases ht:(H.eX k).2.1=0
 ·exact SN h k (by omega) ht
 ·by_cases ha:(H.dF k).2.1=0
  ·obtain ⟨h1,h2⟩:=Nr h k hk ha
   exact Np h k (by omega) ht ha h1 h2
  ·exact SQ h k (by omega) ht ha
theorem VO (f c:Nat) (hf:f<=15) (hc:c<2) (w:World) (he:(H.dQ (jF f)).2.1=0) (hS:Sizes w)
 (hSl:Calls ay 114 #[aj (D 0),ah (jF f:Int)] w fun e w'=>e = .returned (.tuple #[ah ((H.dQ (jF f)).1:Int),ah ((H.dQ (jF f)).2.1:Int)])/\aF w' D (H.dQ (jF f)).2.2/\Keep (HF D) w w'):Calls ay 71 #[aj (D 0),ah (f:Int),ah (c:Int)] w fun e w'=>(∃ va vb:Int,e = .returned (.tuple #[ah va,ah vb]))/\aF w' D (H.nH f c).2/\Keep (HF D) w w':=by
 have e:H.nH f c=((H.dQ (jF f)).1,(((H.dQ (jF f)).2.2.iy (H.dQ (jF f)).1 f).kJ (H.dQ (jF f)).1 f).jO (H.dQ (jF f)).1 c):=by unfold HS.nH;rw [if_pos he]
 rw [e]
 rw [he] at hSl
 have HSL:=au hSl
 have Jo:Hid (Calls ay 112 #[ah (f:Int)] w fun e w'=>e = .returned (.tuple #[ah (jF f:Int),.bool true])/\w=w'):=by
  exact Qd (f:Int) (by omega) (by omega) w hS
 have og:Hid (∀ W,Calls ay 113 #[ah (c:Int)] W fun e w'=>e = .returned (.bool true)/\W=w'):=fun W=>by
  rcases (by omega:c=0\/c=1) with rfl|rfl
  all_goals
   go_enter func113,ntmps113
   go_wp2_with fail
   go_ret
   exact ⟨rfl,rfl⟩
 generalize (H.dQ (jF f)).1=a at *
 generalize (H.dQ (jF f)).2.2=H2 at *
 have HBG:Hid (∀ W,aF W D H2->Calls ay 115 #[aj (D 0),ah (a:Int),ah (f:Int)] W fun e w'=>(∃ er:Int,e = .returned (ah er))/\aF w' D (H2.iy a f)/\Keep (HF D) W w'):=fun W hW=>Ro hW a f hf
 have HST:Hid (∀ W i,aF W D ((H2.iy a f).kJ a i)->Calls ay 72 #[aj (D 0),ah (a:Int),ah (i:Int),ah 0] W fun e w'=>(∃ er:Int,e = .returned (ah er))/\aF w' D ((H2.iy a f).kJ a (i+1))/\Keep (HF D) W w'):=fun W i hW=>by
  refine (FB hW a (i:Int) 0).mono ?_
  rintro e w' ⟨rfl,h1,k1⟩
  exact ⟨⟨_,rfl⟩,h1,k1⟩
 have HBE:Hid (∀ W,aF W D ((H2.iy a f).kJ a f)->Calls ay 116 #[aj (D 0),ah (a:Int),ah (c:Int)] W fun e w'=>(∃ er:Int,e = .returned (ah er))/\aF w' D (((H2.iy a f).kJ a f).jO a c)/\Keep (HF D) W w'):=fun W hW=>by
  refine (UO hW a c).mono ?_
  rintro e w' ⟨rfl,g1,g2⟩
  exact ⟨⟨_,rfl⟩,g1,g2⟩
 have hf0:(f:Int)<=15:=by omega
 have hw0:aF w D H2->True:=fun _=>trivial
 show Calls ay 71 #[aj (D 0),ah (f:Int),ah (c:Int)] w fun e w'=>(∃ va vb:Int,e = .returned (.tuple #[ah va,ah vb]))/\aF w' D (((H2.iy a f).kJ a f).jO a c)/\Keep (HF D) w w'
 generalize H2.iy a f=H3 at *
 clear hSl hS he e hw0
 go_enter func71,ntmps71
 go_wp2_with fail
 refine Jo.out.mono ?_
 rintro e w1 ⟨rfl,rfl⟩
 go_wp2_with fail
 refine (og.out _).mono ?_
 rintro e w1 ⟨rfl,rfl⟩
 go_wp2_with fail
 refine HSL.out.mono ?_
 rintro e w1 ⟨rfl,h1,k1⟩
 have HB1:=au (HBG.out w1 h1)
 have aJ:=au k1
 clear h1 k1 HSL HBG Jo og
 go_wp2_with fail
 refine HB1.out.mono ?_
 rintro e w2 ⟨⟨er,rfl⟩,h2,k2⟩
 have HI0:Hid (aF w2 D (H3.kJ a 0)/\Keep (HF D) w w2):=⟨h2,aJ.out.trans k2⟩
 clear h2 k2 HB1 aJ
 go_wp2_with fail
 go_loopw [39] (fun i wr=>∃ j:Nat,j<=f/\i = ah j/\aF wr D (H3.kJ a j)/\Keep (HF D) w wr) (fun i _=>f - (intOf i).toNat)
 case atStart=>exact ⟨0,Nat.zero_le _,rfl,HI0.out.1,HI0.out.2⟩
 case round =>
  obtain ⟨j,hj,rfl,hh,hk⟩:=hrel
  by_cases hlt:j<f
  ·have oV:(j:Int)<(f:Int):=by omega
   have jJ:=au (HST.out wr j hh)
   have HK:=au hk
   clear hh hk
   go_wp2_with fail
   refine jJ.out.mono ?_
   rintro e w3 ⟨⟨er,rfl⟩,h3,k3⟩
   have VP:Hid (aF w3 D (H3.kJ a (j+1))/\Keep (HF D) w w3):=⟨h3,HK.out.trans k3⟩
   clear h3 k3 jJ
   go_wp2_with fail
   go_roundw
   case rel=>exact ⟨j+1,by omega,by go_num,VP.out.1,VP.out.2⟩
   case measure=>simp [intOf]<;>omega
  ·obtain rfl:j=f:=by omega
   have hnlt:¬ (j:Int)<(j:Int):=by omega
   have HB:=au (HBE.out wr hh)
   have HK:=au hk
   clear hh hk hlt
   go_wp2_with fail
   refine HB.out.mono ?_
   rintro e w3 ⟨⟨er,rfl⟩,h3,k3⟩
   have VP:Hid (aF w3 D ((H3.kJ a j).jO a c)/\Keep (HF D) w w3):=⟨h3,HK.out.trans k3⟩
   clear h3 k3 HB
   go_wp2_with fail
   go_ret2
   exact ⟨⟨_,_,rfl⟩,VP.out.1,VP.out.2⟩
theorem SS (h:aF w D H) (f c:Nat) (hf:f<=3) (hc:c<2) (he:(H.dQ (jF f)).2.1≠0):Calls ay 71 #[aj (D 0),ah (f:Int),ah (c:Int)] w fun e w'=>(∃ va vb:Int,e = .returned (.tuple #[ah va,ah vb]))/\aF w' D (H.nH f c).2/\Keep (HF D) w w':=by
 have e:H.nH f c=(0,(H.dQ (jF f)).2.2):=by unfold HS.nH;rw [if_neg he]
 rw [e]
 have hk2:jF f<2:=Jl hf
 have HSL:=au (Jm h (jF f) hk2)
 have Jo:Hid (Calls ay 112 #[ah (f:Int)] w fun e w'=>e = .returned (.tuple #[ah (jF f:Int),.bool true])/\w=w'):=by
  exact Qd (f:Int) (by omega) (by omega) w h.sizes
 have og:Hid (∀ W,Calls ay 113 #[ah (c:Int)] W fun e w'=>e = .returned (.bool true)/\W=w'):=fun W=>by
  rcases (by omega:c=0\/c=1) with rfl|rfl
  all_goals
   go_enter func113,ntmps113
   go_wp2_with fail
   go_ret
   exact ⟨rfl,rfl⟩
 have he10:(H.dQ (jF f)).2.1=10:=by
  unfold HS.dQ at he ⊢
  split at he
  ·exact absurd rfl he
  ·split at he
   ·exact absurd rfl he
   ·rename_i h1 h2
    rw [if_neg h1,if_neg h2]
 rw [he10] at HSL
 generalize (H.dQ (jF f)).1=a at *
 generalize (H.dQ (jF f)).2.2=H2 at *
 clear h he e he10
 go_enter func71,ntmps71
 go_wp2_with fail
 refine Jo.out.mono ?_
 rintro e w1 ⟨rfl,rfl⟩
 go_wp2_with fail
 refine (og.out _).mono ?_
 rintro e w1 ⟨rfl,rfl⟩
 go_wp2_with fail
 refine HSL.out.mono ?_
 rintro e w1 ⟨rfl,h1,k1⟩
 have HE:=au (And.intro h1 k1)
 clear h1 k1 HSL Jo og
 go_wp2_with fail
 go_ret2
 exact ⟨⟨_,_,rfl⟩,HE.out.1,HE.out.2⟩
theorem VQ (h:aF w D H) (f c:Nat) (hf:f<=3) (hc:c<2):Calls ay 71 #[aj (D 0),ah (f:Int),ah (c:Int)] w fun e w'=>(∃ va vb:Int,e = .returned (.tuple #[ah va,ah vb]))/\aF w' D (H.nH f c).2/\Keep (HF D) w w':=by
 by_cases he:(H.dQ (jF f)).2.1=0
 ·have hk2:jF f<2:=Jl hf
  exact VO f c (by omega) hc w he h.sizes (Jm h (jF f) hk2)
 ·exact SS h f c hf hc he
end
end
section
open Go.RowKit
def rY (s:Nat->Bool) (size n:Nat):Option Nat:=(List.range size).find? fun k=>decide (n<=k)&&s k
theorem find_range (p:Nat->Bool):∀ (size k:Nat),k<size->p k=true->(∀ j,j<k->p j=false)->(List.range size).find? p=some k
 | 0,k,h,_,_=>absurd h (Nat.not_lt_zero k)
 | size+1,k,h,hp,hj=>by
   rw [List.range_succ,List.find?_append]
   by_cases e:k<size
   ·rw [find_range p size k e hp hj];rfl
   ·obtain rfl:k=size:=by omega
    have h0:(List.range k).find? p=none:=List.find?_eq_none.2 (fun x hx=>by rw [hj x (List.mem_range.1 hx)];decide)
    rw [h0]
    simp [hp]
theorem Bo {s:Nat->Bool} {size n k:Nat} (h1:n<=k) (h2:k<size) (h3:s k=true) (h4:∀ j,n<=j->j<k->s j=false):rY s size n=some k:=by
 refine find_range _ size k h2 (by rw [decide_eq_true h1,h3];rfl) (fun j hj=>?_)
 by_cases e:n<=j
 ·rw [h4 j e hj,Bool.and_false]
 ·rw [decide_eq_false e];rfl
theorem xQ {s:Nat->Bool} {size n:Nat} (h:∀ j,n<=j->j<size->s j=false):rY s size n=none :=
 List.find?_eq_none.2 (fun x hx=>by
  by_cases e:n<=x
  ·rw [h x e (List.mem_range.1 hx),Bool.and_false];exact Bool.false_ne_true
  ·rw [decide_eq_false e,Bool.false_and];exact Bool.false_ne_true)
theorem Bq (W:List Nat) (n j:Nat) (hj:n%64+j<64):iK W (n+j)=(W.getD (n/64) 0/2^(n%64)).testBit j:=by
 unfold iK
 have e1:(n+j)/64=n/64:=by omega
 have e2:(n+j)%64=n%64+j:=by omega
 rw [e1,e2,Nat.testBit_div_two_pow]
 congr 1
 omega
theorem VR {W:List Nat} {n:Nat} (h:W.getD (n/64) 0/2^(n%64)=0) (j:Nat) (h1:n<=j) (h2:j<n+(64 - n%64)):iK W j=false:=by
 obtain ⟨d,rfl⟩:∃ d,j=n+d:=⟨j - n,by omega⟩
 rw [Bq W n d (by omega),h,Nat.zero_testBit]
theorem VT {W:List Nat} {n t l:Nat} (hl:l=W.getD (n/64) 0/2^(n%64)) (hx:W.getD (n/64) 0<18446744073709551616) (h0:l≠0) (ht:t=Lib.ctz 64 l):n%64+t<64/\iK W (n+t)=true/\∀ j,n<=j->j<n+t->iK W j=false:=by
 have hl2:l<2^64:=by
  rw [hl]
  exact Nat.lt_of_le_of_lt (Nat.div_le_self _ _) hx
 obtain ⟨m,hm,hk⟩:=Lib.ctzFrom_spec 64 l (by omega) hl2
 have e:t=Lib.ctzFrom 64 l:=by rw [ht];unfold Lib.ctz;rw [if_neg h0]
 rw [<- e] at hm hk
 have hmod:n%64<64:=Nat.mod_lt _ (by decide)
 have h64:n%64+t<64:=by
  have h1:2^t<=l:=by rw [hm];exact Nat.le_mul_of_pos_right _ (by omega)
  have h2:l*2^(n%64)<=W.getD (n/64) 0:=by rw [hl];exact Nat.div_mul_le_self _ _
  have h3:2^t*2^(n%64)<=l*2^(n%64):=Nat.mul_le_mul_right _ h1
  rw [<- Nat.pow_add] at h3
  have h4:2^(t+n%64)<2^64:=by
   have:(2:Nat)^64=18446744073709551616:=by decide
   omega
  have:=(Nat.pow_lt_pow_iff_right (by decide:1<2)).1 h4
  omega
 have hbit:∀ j,l.testBit j=(decide (t<=j)&&(2*m+1).testBit (j - t)):=fun j=>by rw [hm,Nat.mul_comm,Nat.testBit_mul_two_pow]
 refine ⟨h64,?_,fun j h1 h2=>?_⟩
 ·rw [Bq W n t h64,<- hl,hbit,decide_eq_true (Nat.le_refl t),Nat.sub_self]
  simp [Nat.testBit_zero]
 ·obtain ⟨d,rfl⟩:∃ d,j=n+d:=⟨j - n,by omega⟩
  rw [Bq W n d (by omega),<- hl,hbit,decide_eq_false (by omega)];rfl
def lT (w:World):Prop:=TabAt 1 Lib.deBruijn64tab w
theorem lT.mO {S:Nat->Prop} {w w':World} (h:lT w) (k:Keep S w w') (h1:¬ S 1):lT w':=fun j hj=>k.jM (h j hj) h1
theorem lT.still {w w':World} (h:lT w) (k:Keep none_ w w'):lT w':=h.mO k (fun f=>f)
theorem tz64_core (x k idx:Nat) (w:World) (hx0:((x:Int)==0)=false)
 (key:IntKind.u64.wrap (bits BinOp.and IntKind.u64 (x:Int) (IntKind.u64.wrap (-(x:Int)))*285870213051353865)/288230376151711744=(idx:Int))
 (hi:idx<64) (hk:k<64) (hcell:w.cell? ⟨1,idx,none⟩=some (.int .u8 k)) :
 Calls ay 124 #[.int .u64 (x:Int)] w fun e w'=>e = .returned (ah (k:Int))/\w=w':=by
 go_enter func124,ntmps124
 go_wp2_with (simp only [key])
 go_ret
 exact ⟨rfl,rfl⟩
theorem Yi (x:Nat) (hx:x<18446744073709551616) (h0:x≠0) (w:World) (hT:lT w):Calls ay 124 #[.int .u64 (x:Int)] w fun e w'=>e = .returned (ah (Lib.ctz 64 x:Int))/\w=w':=by
 obtain ⟨hlow,hk⟩:=Lib.lowest_bit 64 x h0 hx
 obtain ⟨hi,htab⟩:=Lib.deBruijn64_at _ hk
 have hcell:=hT _ hi
 rw [htab] at hcell
 exact tz64_core x _ _ w (by simp;omega) (tz64_key x _ hx h0 hlow) hi hk hcell
section
variable {w w':World} {B X size:Nat} {W:List Nat}
def vT:Option Nat->Value
 | some k => .tuple #[ah (k:Int),.bool true]
 | none => .tuple #[ah 0,.bool false]
theorem VU (h:fH w B X size W) (hT:lT w) (n:Nat) (hn:n<=4194304):Calls ay 89 #[aj B,ah (n:Int)] w fun e w'=>e = .returned (vT (rY (iK W) size n))/\w=w':=by
 have HM:Hid (∀ k:Nat,Calls ay 95 #[aj B,ah (k:Int)] w fun e w'=>e = .returned (.bool (decide (k<size)))/\w=w'):=fun k=>by
  have h9:=Ee h (k:Int)
  have e:decide (0<=(k:Int)/\(k:Int)<(size:Int))=decide (k<size):=by rw [Bool.eq_iff_iff];simp
  rw [e] at h9
  exact h9
 obtain ⟨cap,hblk⟩:=h.blk
 have y0:=hblk.cell 0 rfl
 have hsz:=h.sz
 have HX:=au h
 have Qb:=au hT
 have hn0:(0:Int)<=(n:Int):=by omega
 have hn1:¬ ((n:Int)<0):=by omega
 have hn2:¬ ((0:Int) > (n:Int)):=by omega
 have hn3:max (n:Int) 0=(n:Int):=by omega
 have HL:Hid (∀ k:Nat,k<size->k/64<W.length):=fun k hk=>(h.word hk).1
 generalize W.length=L at *
 clear h hT hblk
 go_enter func89,ntmps89
 go_wp2_with fail
 refine wp_scope_straight ?_
 go_wp2_with fail
 refine wp_label ?_
 go_wp2_with fail
 go_loopw [1,6] (fun v _ wr=>∃ k:Nat,v = ah (k:Int)/\n<=k/\k<=4194368/\wr=w/\∀ j,n<=j->j<k->iK W j=false) (fun v _ _=>4194368 - (intOf v).toNat)
 case atStart=>exact ⟨n,rfl,Nat.le_refl _,by omega,rfl,fun j h1 h2=>by omega⟩
 case round =>
  obtain ⟨k,rfl,hk1,hk2,rfl,hk⟩:=hrel
  have Ns:=au (HM.out k)
  by_cases hlt:k<size
  ·rw [decide_eq_true hlt] at Ns
   obtain ⟨_,hc,hx⟩:=HX.out.word hlt
   have hL:=HL.out k hlt
   obtain ⟨x,hxe⟩:∃ x,x=W.getD (k/64) 0:=⟨_,rfl⟩
   obtain ⟨lf,hlf⟩:∃ lf,lf=W.getD (k/64) 0/2^(k%64):=⟨_,rfl⟩
   rw [<- hxe] at hc hx
   have hsh:((x:Int)/2^(k%64))=(lf:Int):=by rw [hlf,<- hxe];simp
   have HLZ:Hid (lf=0->∀ j,k<=j->j<k+(64 - k%64)->iK W j=false):=fun e=>VR (by rw [<- hlf];exact e)
   have HLS:Hid (lf≠0->k%64+Lib.ctz 64 lf<64/\iK W (k+Lib.ctz 64 lf)=true/\∀ j,k<=j->j<k+Lib.ctz 64 lf->iK W j=false):=fun e=>VT hlf (by rw [<- hxe];exact hx) e rfl
   have adB:lf<18446744073709551616:=by rw [hlf,<- hxe];exact Nat.lt_of_le_of_lt (Nat.div_le_self _ _) hx
   have HKB:=au hk
   have HTZ:Hid (lf≠0->Calls ay 124 #[.int .u64 (lf:Int)] wr fun e w'=>e = .returned (ah (Lib.ctz 64 lf:Int))/\wr=w'):=fun e=>Yi lf adB e wr Qb.out
   have hk62:k<2097152:=by omega
   generalize Lib.ctz 64 lf=t at *
   clear hk hlf hxe
   by_cases h0:lf=0
   ·subst h0
    have HZ:=au (HLZ.out rfl)
    have d0:(((0:Nat):Int) != 0)=false:=rfl
    have hmod:k%64<64:=Nat.mod_lt _ (by decide)
    have hw1:IntKind.i64.wrap (64 - (k:Int)%64)=64 - (k:Int)%64:=IntWalk.i64_in _ (by omega)
    have hw2:IntKind.i64.wrap ((k:Int)+(64 - (k:Int)%64))=(k:Int)+(64 - (k:Int)%64):=IntWalk.i64_in _ (by omega)
    clear HLZ HLS HTZ
    go_wp2_with fail
    refine Ns.out.mono ?_
    rintro e w1 ⟨rfl,rfl⟩
    go_wp2_with fail
    go_roundw
    case rel =>
     refine ⟨k+(64 - k%64),by congr 1;omega,by omega,by omega,trivial,fun j h1 h2=>?_⟩
     by_cases e:j<k
     ·exact HKB.out j h1 e
     ·exact HZ.out j (by omega) h2
    case measure=>simp [intOf];omega
   ·have d0:((lf:Int)==0)=false:=by simp;omega
    have HT2:=au (HTZ.out h0)
    obtain ⟨g1,g2,g3⟩:=HLS.out h0
    have HG2:=au g2
    have Dp:=au g3
    have hwr:IntKind.i64.wrap ((k:Int)+(t:Int))=(k:Int)+(t:Int):=IntWalk.i64_in _ (by omega)
    have Nu:Hid (Calls ay 95 #[aj B,ah ((k:Int)+(t:Int))] wr fun e w'=>e = .returned (.bool (decide (k+t<size)))/\wr=w'):=by
     have h9:=HM.out (k+t)
     rw [show (((k+t:Nat)):Int)=(k:Int)+(t:Int) from by push_cast;rfl] at h9
     exact h9
    have yL:Hid (k+t<size->rY (iK W) size n=some (k+t)):=fun h=>Bo (by omega) h HG2.out (fun j h1 h2=>by
     by_cases e:j<k
     ·exact HKB.out j h1 e
     ·exact Dp.out j (by omega) h2)
    have Ah:Hid (¬ k+t<size->rY (iK W) size n=none):=fun h=>xQ (fun j h1 h2=>by
     by_cases e:j<k
     ·exact HKB.out j h1 e
     ·exact Dp.out j (by omega) (by omega))
    clear g2 g3 HLZ HLS HTZ
    by_cases hb:k+t<size
    ·rw [decide_eq_true hb] at Nu
     have HR:=au (yL.out hb)
     clear yL Ah hb
     go_wp2_with fail
     refine Ns.out.mono ?_
     rintro e w1 ⟨rfl,rfl⟩
     go_wp2_with fail
     refine HT2.out.mono ?_
     rintro e w1 ⟨rfl,rfl⟩
     go_wp2_with fail
     refine Nu.out.mono ?_
     rintro e w1 ⟨rfl,rfl⟩
     go_wp2_with fail
     simp only [Exit.noGoto]
     go_ret2
     exact ⟨by rw [HR.out];simp [vT],rfl⟩
    ·rw [decide_eq_false hb] at Nu
     have HR:=au (Ah.out hb)
     clear yL Ah hb
     go_wp2_with fail
     refine Ns.out.mono ?_
     rintro e w1 ⟨rfl,rfl⟩
     go_wp2_with fail
     refine HT2.out.mono ?_
     rintro e w1 ⟨rfl,rfl⟩
     go_wp2_with fail
     refine Nu.out.mono ?_
     rintro e w1 ⟨rfl,rfl⟩
     go_wp2_with fail
     simp only [Exit.noGoto]
     go_ret2
     exact ⟨by rw [HR.out];rfl,rfl⟩
  ·rw [decide_eq_false hlt] at Ns
   have HR:Hid (rY (iK W) size n=none):=xQ (fun j h1 h2=>hk j h1 (by omega))
   clear hk
   go_wp2_with fail
   refine Ns.out.mono ?_
   rintro e w1 ⟨rfl,rfl⟩
   go_wp2_with fail
   refine Ns.out.mono ?_
   rintro e w1 ⟨rfl,rfl⟩
   go_wp2_with fail
   simp only [Exit.noGoto]
   go_ret2
   exact ⟨by rw [HR.out];rfl,rfl⟩
end
end
end Go.Proofs.YtanfphjoebobaaaGreatDoor
